/-
  Texts of this seat, joined, less what CoreLazy does not lean on: LazyOf, LazyLaw.
-/
import Derived.Test.YtpljkcakijkklaaDoorQCoreLazy19
import Derived.Test.YtpljkcakijkklaaDoorQCoreLazy10
set_option linter.unusedVariables false
set_option linter.unusedSimpArgs false
set_option maxHeartbeats 16000000
set_option maxRecDepth 100000
section
namespace Go.Proofs.YtpljkcakijkklaaDoor
set_option linter.unusedVariables false
set_option linter.unusedSimpArgs false
open Go.RowKit Go.Proofs.YtpljkcakijkklaaDoorW.PrintWords Go.Proofs.YtpljkcakijkklaaDoorW.PrintLast Go.Proofs.YtpljkcakijkklaaDoorW.PrintMore

theorem res_at {w : World} {g : Nat} {a b : Int} (h : w.heap[g]? = some (.cells #[.int .i64 a, .int .i64 b] 34 (0, 0))) : w.cell? ⟨g, 0, none⟩ = some (.int .i64 a) ∧ w.cell? ⟨g, 1, none⟩ = some (.int .i64 b) :=
 ⟨(blk_cell h 0).trans rfl, (blk_cell h 1).trans rfl⟩
theorem cm2 {P : Program} {l : List Oper} {Q : Exit → Act → World → Prop} {md : Region.Mode} {S : World → Prop} {oi oj : Oper} {fuel : Nat} {listed : Array Bool} {a : Act} {w : World} (i j : Nat) (h : ∀ K' : Act → World → Prop, Shut (∀ a w, S w → (S w → wpAnyH P md l.toArray Q S fuel (listed.setIfInBounds i true) a w) → K' a w) → if Region.wanted oi (yielded l.toArray a.tmps) = true then Oper.wp P oi a w K' Q else K' (a.put oi.dst undef) w)
  (h' : ∀ K' : Act → World → Prop, Shut (∀ a w, S w → (S w → wpAnyH P md l.toArray Q S fuel (listed.setIfInBounds j true) a w) → K' a w) → if Region.wanted oj (yielded l.toArray a.tmps) = true then Oper.wp P oj a w K' Q else K' (a.put oj.dst undef) w)
  (hi : l[i]? = some oi := by rfl) (hj : l[j]? = some oj := by rfl) (hr : Region.ready md l.toArray listed = [i, j] := by kernel_rfl) : wpAnyH P md l.toArray Q S (fuel + 1) listed a w :=
 wpAnyH_ready hr (by simp) (AllReadyH.cons (by rw [List.getElem?_toArray]; exact hi) h (AllReadyH.cons (by rw [List.getElem?_toArray]; exact hj) h' AllReadyH.nil))
theorem three_lies {op : Int} {a b d : Cr} {g : Nat} {w : World} (h : w.heap[g]? = some (.cells #[.int .i64 a.op, .int .i64 a.n, .int .i64 a.m, .slice a.at_ a.kids.length a.cap, .int .i64 b.op, .int .i64 b.n, .int .i64 b.m, .slice b.at_ b.kids.length b.cap, .int .i64 d.op, .int .i64 d.n, .int .i64 d.m, .slice d.at_ d.kids.length d.cap] 24 (0, 0)))
  (ho : R64 op) (ha : Lies w a) (hb : Lies w b) (hd : Lies w d) : Lies w (.node op 0 0 (some ⟨g, 0, none⟩) 3 [a, b, d]) := by
 rw [Lies, LiesL, LiesL, LiesL, LiesL]
 refine ⟨⟨ho, by unfold I64; omega, by unfold I64; omega⟩, by simp, ⟨⟨_, rfl, ?_⟩, ha, ⟨⟨_, rfl, ?_⟩, hb, ⟨⟨_, rfl, ?_⟩, hd, trivial⟩⟩⟩⟩
 ·refine World.cells?_of_each (Nat.zero_le _) rfl fun i hi => ?_
  match i, hi with
  | 0, _ => exact (blk_cell h 0).trans rfl
  | 1, _ => exact (blk_cell h 1).trans rfl
  | 2, _ => exact (blk_cell h 2).trans rfl
  | 3, _ => exact (blk_cell h 3).trans rfl
 ·refine World.cells?_of_each (Nat.zero_le _) rfl fun i hi => ?_
  match i, hi with
  | 0, _ => exact (blk_cell h 4).trans rfl
  | 1, _ => exact (blk_cell h 5).trans rfl
  | 2, _ => exact (blk_cell h 6).trans rfl
  | 3, _ => exact (blk_cell h 7).trans rfl
 ·refine World.cells?_of_each (Nat.zero_le _) rfl fun i hi => ?_
  match i, hi with
  | 0, _ => exact (blk_cell h 8).trans rfl
  | 1, _ => exact (blk_cell h 9).trans rfl
  | 2, _ => exact (blk_cell h 10).trans rfl
  | 3, _ => exact (blk_cell h 11).trans rfl
theorem of_reg14 {J : Act → World → Prop} {Φ : Ending → World → Prop} {W : World} {v : En} {cA cB : Cr} {gA gB gE : Nat} {xr xn : Int} {dl : List Deferred} {u0 u1 u2 u5 u6 u7 u8 u9 u10 u12 u13 u14 u15 u16 u17 u18 u19 u20 u21 u22 u23 u24 u25 u26 u27 u28 u29 u30 u31 u32 u33 u34 u35 u36 u37 u38 u39 u40 u41 u42 u43 u44 u45 u46 u47 u48 u49 u50 u51 u52 u53 u54 u55 u56 u57 u58 u59 u60 u61 u62 u63 u64 u65 u66 u67 u68 u69 u70 u71 u72 u73 u74 u75 u76 u77 u78 u79 u80 u81 u82 u83 u84 u85 u86 u87 u88 u89 u90 u91 u92 u93 u94 u95 u96 u97 u98 u99 u100 u101 u102 u103 u104 u105 u106 u107 u108 u109 u110 u111 u112 u113 u114 u115 u116 u117 u118 u119 u120 u121 u122 u123 u124 u125 u126 u127 u128 u129 u130 u131 u132 u133 u134 u135 u136 u137 u138 u139 u140 u141 u142 u143 u144 u145 u146 u147 u148 u149 u150 u151 u152 u153 u154 u155 u156 u157 u158 u159 u160 u161 u162 u163 u164 u165 u166 u167 u168 u169 u170 u171 u172 u173 u174 u175 u176 u177 u178 u179 u180 u181 u182 u183 u184 u185 u186 u187 u188 u189 u190 u191 u192 u193 u194 : Value}
  (hV : EnvL W v) (hT : ErrT W) (hA : Lies W cA) (hB : Lies W cB)
  (hF : ∀ w', Below W.heap.size W w' → (w'.cell? ⟨gA, 0, none⟩ = some (.int .i64 cA.op) ∧ w'.cell? ⟨gA, 1, none⟩ = some (.int .i64 cA.n) ∧ w'.cell? ⟨gA, 2, none⟩ = some (.int .i64 cA.m) ∧ w'.cell? ⟨gA, 3, none⟩ = some (.slice cA.at_ cA.kids.length cA.cap)) ∧ (w'.cell? ⟨gB, 0, none⟩ = some (.int .i64 cB.op) ∧ w'.cell? ⟨gB, 1, none⟩ = some (.int .i64 cB.n) ∧ w'.cell? ⟨gB, 2, none⟩ = some (.int .i64 cB.m) ∧ w'.cell? ⟨gB, 3, none⟩ = some (.slice cB.at_ cB.kids.length cB.cap)) ∧ (w'.cell? ⟨gE, 0, none⟩ = some (.int .i64 v.rep) ∧ w'.cell? ⟨gE, 1, none⟩ = some (.slice v.wa v.wins.length v.wcap) ∧ w'.cell? ⟨gE, 2, none⟩ = some (.slice v.ca v.crons.length v.ccap)))
  (hX : ∀ (a : Option Addr) (k : Nat), EvalR v (.node 27 0 0 a k [cA, cB]) = (xr, xn, 0))
  (hJ : ∀ (gq : Nat) (q19 q91 q92 q93 q94 q95 q96 q97 q98 : Value) (wx : World), wx.heap[gq]? = some (.cells #[.int .i64 xr, .int .i64 xn] 34 (0, 0)) → Below W.heap.size W wx → J ⟨#[u0, u1, u2, .pointer (some ⟨gB, 0, none⟩), .pointer (some ⟨gE, 0, none⟩), u5, u6, u7, u8, u9, u10, .pointer (some ⟨gA, 0, none⟩), u12, u13, u14, u15, u16, u17, .pointer (some ⟨gq, 0, none⟩), q19, u20, u21, u22, u23, u24, u25, u26, u27, u28, u29, u30, u31, u32, u33, u34, u35, u36, u37, u38, u39, u40, u41, u42, u43, u44, u45, u46, u47, u48, u49, u50, u51, u52, u53, u54, u55, u56, u57, u58, u59, u60, u61, u62, u63, u64, u65, u66, u67, u68, u69, u70, u71, u72, u73, u74, u75, u76, u77, u78, u79, u80, u81, u82, u83, u84, u85, u86, u87, u88, u89, u90, q91, q92, q93, q94, q95, q96, q97, q98, u99, u100, u101, u102, u103, u104, u105, u106, u107, u108, u109, u110, u111, u112, u113, u114, u115, u116, u117, u118, u119, u120, u121, u122, u123, u124, u125, u126, u127, u128, u129, u130, u131, u132, u133, u134, u135, u136, u137, u138, u139, u140, u141, u142, u143, u144, u145, u146, u147, u148, u149, u150, u151, u152, u153, u154, u155, u156, u157, u158, u159, u160, u161, u162, u163, u164, u165, u166, u167, u168, u169, u170, u171, u172, u173, u174, u175, u176, u177, u178, u179, u180, u181, u182, u183, u184, u185, u186, u187, u188, u189, u190, u191, u192, u193, u194], dl⟩ wx) :
  (Code.region 14 #[{ dst := some 92, op := Go.Op.load 24 (Go.Operand.tmp 11), type := 24, pos := "law.go:91", after := #[], guard := none }, { dst := some 93, op := Go.Op.load 24 (Go.Operand.tmp 3), type := 24, pos := "law.go:91", after := #[], guard := none }, { dst := some 94, op := Go.Op.call { callee := Go.Callee.value (Go.Operand.func 10), args := #[Go.Operand.const (Go.Value.int Go.IntKind.i64 27), Go.Operand.tmp 92, Go.Operand.tmp 93], argTypes := #[3, 24, 24] }, type := 24, pos := "law.go:91", after := #[{ on := 0, ground := Go.Ground.data }, { on := 1, ground := Go.Ground.data }], guard := none }, { dst := some 95, op := Go.Op.load 28 (Go.Operand.tmp 4), type := 28, pos := "law.go:91", after := #[], guard := none }, { dst := some 96, op := Go.Op.call { callee := Go.Callee.value (Go.Operand.func 9), args := #[Go.Operand.tmp 94, Go.Operand.tmp 95], argTypes := #[24, 28] }, type := 36, pos := "law.go:91", after := #[{ on := 2, ground := Go.Ground.data }, { on := 3, ground := Go.Ground.data }, { on := 2, ground := Go.Ground.chain }], guard := none }, { dst := some 91, op := Go.Op.move (Go.Operand.tmp 96), type := 36, pos := "law.go:91", after := #[{ on := 4, ground := Go.Ground.data }], guard := none }, { dst := some 97, op := Go.Op.extract (Go.Operand.tmp 91) 0, type := 34, pos := "law.go:91", after := #[{ on := 5, ground := Go.Ground.data }], guard := none }, { dst := some 98, op := Go.Op.extract (Go.Operand.tmp 91) 1, type := 35, pos := "law.go:91", after := #[{ on := 5, ground := Go.Ground.data }, { on := 9, ground := Go.Ground.gcOnly Go.Departure.lateStores }], guard := none }, { dst := some 18, op := Go.Op.alloc 34, type := 0, pos := "law.go:91", after := #[], guard := none }, { dst := none, op := Go.Op.store 34 (Go.Operand.tmp 18) (Go.Operand.tmp 97), type := 0, pos := "law.go:91", after := #[{ on := 8, ground := Go.Ground.data }, { on := 6, ground := Go.Ground.data }, { on := 4, ground := Go.Ground.chain }, { on := 0, ground := Go.Ground.phase }, { on := 1, ground := Go.Ground.phase }, { on := 2, ground := Go.Ground.phase }, { on := 3, ground := Go.Ground.phase }, { on := 4, ground := Go.Ground.phase }, { on := 5, ground := Go.Ground.phase }, { on := 6, ground := Go.Ground.phase }, { on := 7, ground := Go.Ground.textOnly Go.Departure.lateStores }, { on := 8, ground := Go.Ground.phase }], guard := none }, { dst := some 19, op := Go.Op.assign (Go.Operand.tmp 98), type := 35, pos := "law.go:91", after := #[{ on := 7, ground := Go.Ground.data }, { on := 9, ground := Go.Ground.chain }, { on := 0, ground := Go.Ground.phase }, { on := 1, ground := Go.Ground.phase }, { on := 2, ground := Go.Ground.phase }, { on := 3, ground := Go.Ground.phase }, { on := 4, ground := Go.Ground.phase }, { on := 5, ground := Go.Ground.phase }, { on := 6, ground := Go.Ground.phase }, { on := 7, ground := Go.Ground.phase }, { on := 8, ground := Go.Ground.phase }, { on := 9, ground := Go.Ground.phase }], guard := none }] true).wp Tryd.prog (Exit.then J (bodyPost Tryd.prog Tryd.f3 Φ)) ⟨#[u0, u1, u2, .pointer (some ⟨gB, 0, none⟩), .pointer (some ⟨gE, 0, none⟩), u5, u6, u7, u8, u9, u10, .pointer (some ⟨gA, 0, none⟩), u12, u13, u14, u15, u16, u17, u18, u19, u20, u21, u22, u23, u24, u25, u26, u27, u28, u29, u30, u31, u32, u33, u34, u35, u36, u37, u38, u39, u40, u41, u42, u43, u44, u45, u46, u47, u48, u49, u50, u51, u52, u53, u54, u55, u56, u57, u58, u59, u60, u61, u62, u63, u64, u65, u66, u67, u68, u69, u70, u71, u72, u73, u74, u75, u76, u77, u78, u79, u80, u81, u82, u83, u84, u85, u86, u87, u88, u89, u90, u91, u92, u93, u94, u95, u96, u97, u98, u99, u100, u101, u102, u103, u104, u105, u106, u107, u108, u109, u110, u111, u112, u113, u114, u115, u116, u117, u118, u119, u120, u121, u122, u123, u124, u125, u126, u127, u128, u129, u130, u131, u132, u133, u134, u135, u136, u137, u138, u139, u140, u141, u142, u143, u144, u145, u146, u147, u148, u149, u150, u151, u152, u153, u154, u155, u156, u157, u158, u159, u160, u161, u162, u163, u164, u165, u166, u167, u168, u169, u170, u171, u172, u173, u174, u175, u176, u177, u178, u179, u180, u181, u182, u183, u184, u185, u186, u187, u188, u189, u190, u191, u192, u193, u194], dl⟩ W := by
 have HV := Lib.hid hV
 have HT := Lib.hid hT
 have HLA := Lib.hid hA
 have HLB := Lib.hid hB
 have HF := Lib.hid hF
 have hX := Lib.hid hX
 clear hV hT hA hB hF
 refine wp_region_held_drew (S := fun w' => Aside0 (Below W.heap.size W w')) (by kernel_rfl) ?_ (fun hHeld => ?_)
 ·exact ⟨(Below.refl _ _).drew⟩
 generalize World.drew _ = wD at hHeld ⊢
 have HCr := HF
 refine' tk 0 ?_
 try simp only [pt]
 refine' tk 1 ?_
 try simp only [pt]
 refine' tk 3 ?_
 try simp only [pt]
 refine' cm2 2 8 (fun K hK => ?ka) (fun K hK => ?kb)
 case ka =>
  go_simp
  have BO0 := Lib.hid hHeld.out
  refine (of_calls 27 cA cB _).mono ?_
  rintro e wO ⟨⟨gO, rfl, hgO⟩, bO⟩
  have HLO := Lib.hid (of_lies (op := 27) (a := cA) (b := cB) hgO (by unfold R64; omega) (HLA.out.below (BO0.out.trans (bO.mono BO0.out.size))) (HLB.out.below (BO0.out.trans (bO.mono BO0.out.size))))
  refine hK.out _ _ ⟨hHeld.out.trans (bO.mono hHeld.out.size)⟩ (fun hHeld => ?_)
  clear hK K
  try simp only [pt]
  clear hgO bO
  refine' cm2 4 8 (fun K hK => ?kc) (fun K hK => ?kd)
  case kc =>
   go_simp
   have hE := Eval_calls (HLO.out) (HV.out.below hHeld.out) (HT.out.below hHeld.out)
   rw [hX.out] at hE
   refine hE.mono ?_
   clear hE
   rintro e wE ⟨rfl, bE⟩
   refine hK.out _ _ ⟨hHeld.out.trans (bE.mono hHeld.out.size)⟩ (fun hHeld => ?_)
   clear hK K
   try simp only [pt]
   clear bE
   refine' tk 5 ?_
   try simp only [pt]
   refine' tk 6 ?_
   try simp only [pt]
   refine' tk 7 ?_
   try simp only [pt]
   refine' cm 8 (fun K hK => ?_)
   go_simp
   have kN := blk_new wE (.cells #[.int .i64 0, .int .i64 0] 34)
   have geN := hHeld.out.size
   obtain ⟨gN, hgN⟩ : ∃ x, wE.heap.size = x := ⟨_, rfl⟩
   have HGN := Lib.hid hgN
   rw [hgN] at kN geN
   clear hgN
   refine hK.out _ _ ⟨hHeld.out.alloc hHeld.out.size _⟩ (fun hHeld => ?_)
   clear hK K
   try simp only [pt]
   try rw [HGN.out]
   generalize World.alloc wE _ = wT at kN hHeld ⊢
   have r0 := (blk_cell kN 0).trans rfl
   have r1 := (blk_cell kN 1).trans rfl
   have f0 := blk_frozen kN 0
   have f1 := blk_frozen kN 1
   have HK2 := Lib.hid (res_put (c := .int .i64 xr) (d := .int .i64 xn) kN)
   have HB2 := Lib.hid ((hHeld.out.setCell (p := ⟨gN, 0, none⟩) geN (.int .i64 xr)).setCell (p := ⟨gN, 1, none⟩) geN (.int .i64 xn))
   clear kN geN hHeld
   refine' cm 9 (fun K hK => ?_)
   go_simp
   refine hK.out _ _ ⟨HB2.out⟩ (fun hHeld => ?_)
   clear hK K
   try simp only [pt]
   refine' cm 10 (fun K hK => ?_)
   go_simp
   refine hK.out _ _ ⟨HB2.out⟩ (fun hHeld => ?_)
   clear hK K
   try simp only [pt]
   refine wpAnyH_done (by kernel_rfl) ?_ _
   exact hJ gN _ _ _ _ _ _ _ _ _ _ HK2.out HB2.out
  case kd =>
   go_simp
   have kN := blk_new wO (.cells #[.int .i64 0, .int .i64 0] 34)
   have geN := hHeld.out.size
   obtain ⟨gN, hgN⟩ : ∃ x, wO.heap.size = x := ⟨_, rfl⟩
   have HGN := Lib.hid hgN
   rw [hgN] at kN geN
   clear hgN
   refine hK.out _ _ ⟨hHeld.out.alloc hHeld.out.size _⟩ (fun hHeld => ?_)
   clear hK K
   try simp only [pt]
   try rw [HGN.out]
   refine' cm 4 (fun K hK => ?_)
   go_simp
   have hE := Eval_calls (HLO.out.below (below_alloc (Below.refl _ _) _)) (HV.out.below hHeld.out) (HT.out.below hHeld.out)
   rw [hX.out] at hE
   refine hE.mono ?_
   clear hE
   rintro e wE ⟨rfl, bE⟩
   replace kN := blk_below kN bE
   refine hK.out _ _ ⟨hHeld.out.trans (bE.mono hHeld.out.size)⟩ (fun hHeld => ?_)
   clear hK K
   try simp only [pt]
   clear bE
   refine' tk 5 ?_
   try simp only [pt]
   refine' tk 6 ?_
   try simp only [pt]
   refine' tk 7 ?_
   try simp only [pt]
   have r0 := (blk_cell kN 0).trans rfl
   have r1 := (blk_cell kN 1).trans rfl
   have f0 := blk_frozen kN 0
   have f1 := blk_frozen kN 1
   have HK2 := Lib.hid (res_put (c := .int .i64 xr) (d := .int .i64 xn) kN)
   have HB2 := Lib.hid ((hHeld.out.setCell (p := ⟨gN, 0, none⟩) geN (.int .i64 xr)).setCell (p := ⟨gN, 1, none⟩) geN (.int .i64 xn))
   clear kN geN hHeld
   refine' cm 9 (fun K hK => ?_)
   go_simp
   refine hK.out _ _ ⟨HB2.out⟩ (fun hHeld => ?_)
   clear hK K
   try simp only [pt]
   refine' cm 10 (fun K hK => ?_)
   go_simp
   refine hK.out _ _ ⟨HB2.out⟩ (fun hHeld => ?_)
   clear hK K
   try simp only [pt]
   refine wpAnyH_done (by kernel_rfl) ?_ _
   exact hJ gN _ _ _ _ _ _ _ _ _ _ HK2.out HB2.out
 case kb =>
  go_simp
  have kN := blk_new wD (.cells #[.int .i64 0, .int .i64 0] 34)
  have geN := hHeld.out.size
  obtain ⟨gN, hgN⟩ : ∃ x, wD.heap.size = x := ⟨_, rfl⟩
  have HGN := Lib.hid hgN
  rw [hgN] at kN geN
  clear hgN
  refine hK.out _ _ ⟨hHeld.out.alloc hHeld.out.size _⟩ (fun hHeld => ?_)
  clear hK K
  try simp only [pt]
  try rw [HGN.out]
  refine' cm 2 (fun K hK => ?_)
  go_simp
  have BO0 := Lib.hid hHeld.out
  refine (of_calls 27 cA cB _).mono ?_
  rintro e wO ⟨⟨gO, rfl, hgO⟩, bO⟩
  have HLO := Lib.hid (of_lies (op := 27) (a := cA) (b := cB) hgO (by unfold R64; omega) (HLA.out.below (BO0.out.trans (bO.mono BO0.out.size))) (HLB.out.below (BO0.out.trans (bO.mono BO0.out.size))))
  replace kN := blk_below kN bO
  refine hK.out _ _ ⟨hHeld.out.trans (bO.mono hHeld.out.size)⟩ (fun hHeld => ?_)
  clear hK K
  try simp only [pt]
  clear hgO bO
  refine' cm 4 (fun K hK => ?_)
  go_simp
  have hE := Eval_calls (HLO.out) (HV.out.below hHeld.out) (HT.out.below hHeld.out)
  rw [hX.out] at hE
  refine hE.mono ?_
  clear hE
  rintro e wE ⟨rfl, bE⟩
  replace kN := blk_below kN bE
  refine hK.out _ _ ⟨hHeld.out.trans (bE.mono hHeld.out.size)⟩ (fun hHeld => ?_)
  clear hK K
  try simp only [pt]
  clear bE
  refine' tk 5 ?_
  try simp only [pt]
  refine' tk 6 ?_
  try simp only [pt]
  refine' tk 7 ?_
  try simp only [pt]
  have r0 := (blk_cell kN 0).trans rfl
  have r1 := (blk_cell kN 1).trans rfl
  have f0 := blk_frozen kN 0
  have f1 := blk_frozen kN 1
  have HK2 := Lib.hid (res_put (c := .int .i64 xr) (d := .int .i64 xn) kN)
  have HB2 := Lib.hid ((hHeld.out.setCell (p := ⟨gN, 0, none⟩) geN (.int .i64 xr)).setCell (p := ⟨gN, 1, none⟩) geN (.int .i64 xn))
  clear kN geN hHeld
  refine' cm 9 (fun K hK => ?_)
  go_simp
  refine hK.out _ _ ⟨HB2.out⟩ (fun hHeld => ?_)
  clear hK K
  try simp only [pt]
  refine' cm 10 (fun K hK => ?_)
  go_simp
  refine hK.out _ _ ⟨HB2.out⟩ (fun hHeld => ?_)
  clear hK K
  try simp only [pt]
  refine wpAnyH_done (by kernel_rfl) ?_ _
  exact hJ gN _ _ _ _ _ _ _ _ _ _ HK2.out HB2.out
theorem of_reg15 {J : Act → World → Prop} {Φ : Ending → World → Prop} {W : World} {v : En} {cA cB : Cr} {gA gB gE : Nat} {xr xn : Int} {dl : List Deferred} {u0 u1 u2 u5 u6 u7 u8 u9 u10 u12 u13 u14 u15 u16 u17 u18 u19 u20 u21 u22 u23 u24 u25 u26 u27 u28 u29 u30 u31 u32 u33 u34 u35 u36 u37 u38 u39 u40 u41 u42 u43 u44 u45 u46 u47 u48 u49 u50 u51 u52 u53 u54 u55 u56 u57 u58 u59 u60 u61 u62 u63 u64 u65 u66 u67 u68 u69 u70 u71 u72 u73 u74 u75 u76 u77 u78 u79 u80 u81 u82 u83 u84 u85 u86 u87 u88 u89 u90 u91 u92 u93 u94 u95 u96 u97 u98 u99 u100 u101 u102 u103 u104 u105 u106 u107 u108 u109 u110 u111 u112 u113 u114 u115 u116 u117 u118 u119 u120 u121 u122 u123 u124 u125 u126 u127 u128 u129 u130 u131 u132 u133 u134 u135 u136 u137 u138 u139 u140 u141 u142 u143 u144 u145 u146 u147 u148 u149 u150 u151 u152 u153 u154 u155 u156 u157 u158 u159 u160 u161 u162 u163 u164 u165 u166 u167 u168 u169 u170 u171 u172 u173 u174 u175 u176 u177 u178 u179 u180 u181 u182 u183 u184 u185 u186 u187 u188 u189 u190 u191 u192 u193 u194 : Value}
  (hV : EnvL W v) (hT : ErrT W) (hA : Lies W cA) (hB : Lies W cB)
  (hF : ∀ w', Below W.heap.size W w' → (w'.cell? ⟨gA, 0, none⟩ = some (.int .i64 cA.op) ∧ w'.cell? ⟨gA, 1, none⟩ = some (.int .i64 cA.n) ∧ w'.cell? ⟨gA, 2, none⟩ = some (.int .i64 cA.m) ∧ w'.cell? ⟨gA, 3, none⟩ = some (.slice cA.at_ cA.kids.length cA.cap)) ∧ (w'.cell? ⟨gB, 0, none⟩ = some (.int .i64 cB.op) ∧ w'.cell? ⟨gB, 1, none⟩ = some (.int .i64 cB.n) ∧ w'.cell? ⟨gB, 2, none⟩ = some (.int .i64 cB.m) ∧ w'.cell? ⟨gB, 3, none⟩ = some (.slice cB.at_ cB.kids.length cB.cap)) ∧ (w'.cell? ⟨gE, 0, none⟩ = some (.int .i64 v.rep) ∧ w'.cell? ⟨gE, 1, none⟩ = some (.slice v.wa v.wins.length v.wcap) ∧ w'.cell? ⟨gE, 2, none⟩ = some (.slice v.ca v.crons.length v.ccap)))
  (hX : ∀ (a : Option Addr) (k : Nat), EvalR v (.node 27 0 0 a k [cA, cB]) = (xr, xn, 0))
  (hJ : ∀ (gq : Nat) (q21 q99 q100 q101 q102 q103 q104 q105 q106 : Value) (wx : World), wx.heap[gq]? = some (.cells #[.int .i64 xr, .int .i64 xn] 34 (0, 0)) → Below W.heap.size W wx → J ⟨#[u0, u1, u2, .pointer (some ⟨gA, 0, none⟩), .pointer (some ⟨gE, 0, none⟩), u5, u6, u7, u8, u9, u10, .pointer (some ⟨gB, 0, none⟩), u12, u13, u14, u15, u16, u17, u18, u19, .pointer (some ⟨gq, 0, none⟩), q21, u22, u23, u24, u25, u26, u27, u28, u29, u30, u31, u32, u33, u34, u35, u36, u37, u38, u39, u40, u41, u42, u43, u44, u45, u46, u47, u48, u49, u50, u51, u52, u53, u54, u55, u56, u57, u58, u59, u60, u61, u62, u63, u64, u65, u66, u67, u68, u69, u70, u71, u72, u73, u74, u75, u76, u77, u78, u79, u80, u81, u82, u83, u84, u85, u86, u87, u88, u89, u90, u91, u92, u93, u94, u95, u96, u97, u98, q99, q100, q101, q102, q103, q104, q105, q106, u107, u108, u109, u110, u111, u112, u113, u114, u115, u116, u117, u118, u119, u120, u121, u122, u123, u124, u125, u126, u127, u128, u129, u130, u131, u132, u133, u134, u135, u136, u137, u138, u139, u140, u141, u142, u143, u144, u145, u146, u147, u148, u149, u150, u151, u152, u153, u154, u155, u156, u157, u158, u159, u160, u161, u162, u163, u164, u165, u166, u167, u168, u169, u170, u171, u172, u173, u174, u175, u176, u177, u178, u179, u180, u181, u182, u183, u184, u185, u186, u187, u188, u189, u190, u191, u192, u193, u194], dl⟩ wx) :
  (Code.region 15 #[{ dst := some 100, op := Go.Op.load 24 (Go.Operand.tmp 3), type := 24, pos := "law.go:92", after := #[], guard := none }, { dst := some 101, op := Go.Op.load 24 (Go.Operand.tmp 11), type := 24, pos := "law.go:92", after := #[], guard := none }, { dst := some 102, op := Go.Op.call { callee := Go.Callee.value (Go.Operand.func 10), args := #[Go.Operand.const (Go.Value.int Go.IntKind.i64 27), Go.Operand.tmp 100, Go.Operand.tmp 101], argTypes := #[3, 24, 24] }, type := 24, pos := "law.go:92", after := #[{ on := 0, ground := Go.Ground.data }, { on := 1, ground := Go.Ground.data }], guard := none }, { dst := some 103, op := Go.Op.load 28 (Go.Operand.tmp 4), type := 28, pos := "law.go:92", after := #[], guard := none }, { dst := some 104, op := Go.Op.call { callee := Go.Callee.value (Go.Operand.func 9), args := #[Go.Operand.tmp 102, Go.Operand.tmp 103], argTypes := #[24, 28] }, type := 36, pos := "law.go:92", after := #[{ on := 2, ground := Go.Ground.data }, { on := 3, ground := Go.Ground.data }, { on := 2, ground := Go.Ground.chain }], guard := none }, { dst := some 99, op := Go.Op.move (Go.Operand.tmp 104), type := 36, pos := "law.go:92", after := #[{ on := 4, ground := Go.Ground.data }], guard := none }, { dst := some 105, op := Go.Op.extract (Go.Operand.tmp 99) 0, type := 34, pos := "law.go:92", after := #[{ on := 5, ground := Go.Ground.data }], guard := none }, { dst := some 106, op := Go.Op.extract (Go.Operand.tmp 99) 1, type := 35, pos := "law.go:92", after := #[{ on := 5, ground := Go.Ground.data }, { on := 9, ground := Go.Ground.gcOnly Go.Departure.lateStores }], guard := none }, { dst := some 20, op := Go.Op.alloc 34, type := 0, pos := "law.go:92", after := #[], guard := none }, { dst := none, op := Go.Op.store 34 (Go.Operand.tmp 20) (Go.Operand.tmp 105), type := 0, pos := "law.go:92", after := #[{ on := 8, ground := Go.Ground.data }, { on := 6, ground := Go.Ground.data }, { on := 4, ground := Go.Ground.chain }, { on := 0, ground := Go.Ground.phase }, { on := 1, ground := Go.Ground.phase }, { on := 2, ground := Go.Ground.phase }, { on := 3, ground := Go.Ground.phase }, { on := 4, ground := Go.Ground.phase }, { on := 5, ground := Go.Ground.phase }, { on := 6, ground := Go.Ground.phase }, { on := 7, ground := Go.Ground.textOnly Go.Departure.lateStores }, { on := 8, ground := Go.Ground.phase }], guard := none }, { dst := some 21, op := Go.Op.assign (Go.Operand.tmp 106), type := 35, pos := "law.go:92", after := #[{ on := 7, ground := Go.Ground.data }, { on := 9, ground := Go.Ground.chain }, { on := 0, ground := Go.Ground.phase }, { on := 1, ground := Go.Ground.phase }, { on := 2, ground := Go.Ground.phase }, { on := 3, ground := Go.Ground.phase }, { on := 4, ground := Go.Ground.phase }, { on := 5, ground := Go.Ground.phase }, { on := 6, ground := Go.Ground.phase }, { on := 7, ground := Go.Ground.phase }, { on := 8, ground := Go.Ground.phase }, { on := 9, ground := Go.Ground.phase }], guard := none }] true).wp Tryd.prog (Exit.then J (bodyPost Tryd.prog Tryd.f3 Φ)) ⟨#[u0, u1, u2, .pointer (some ⟨gA, 0, none⟩), .pointer (some ⟨gE, 0, none⟩), u5, u6, u7, u8, u9, u10, .pointer (some ⟨gB, 0, none⟩), u12, u13, u14, u15, u16, u17, u18, u19, u20, u21, u22, u23, u24, u25, u26, u27, u28, u29, u30, u31, u32, u33, u34, u35, u36, u37, u38, u39, u40, u41, u42, u43, u44, u45, u46, u47, u48, u49, u50, u51, u52, u53, u54, u55, u56, u57, u58, u59, u60, u61, u62, u63, u64, u65, u66, u67, u68, u69, u70, u71, u72, u73, u74, u75, u76, u77, u78, u79, u80, u81, u82, u83, u84, u85, u86, u87, u88, u89, u90, u91, u92, u93, u94, u95, u96, u97, u98, u99, u100, u101, u102, u103, u104, u105, u106, u107, u108, u109, u110, u111, u112, u113, u114, u115, u116, u117, u118, u119, u120, u121, u122, u123, u124, u125, u126, u127, u128, u129, u130, u131, u132, u133, u134, u135, u136, u137, u138, u139, u140, u141, u142, u143, u144, u145, u146, u147, u148, u149, u150, u151, u152, u153, u154, u155, u156, u157, u158, u159, u160, u161, u162, u163, u164, u165, u166, u167, u168, u169, u170, u171, u172, u173, u174, u175, u176, u177, u178, u179, u180, u181, u182, u183, u184, u185, u186, u187, u188, u189, u190, u191, u192, u193, u194], dl⟩ W := by
 have HV := Lib.hid hV
 have HT := Lib.hid hT
 have HLA := Lib.hid hA
 have HLB := Lib.hid hB
 have HF := Lib.hid hF
 have hX := Lib.hid hX
 clear hV hT hA hB hF
 refine wp_region_held_drew (S := fun w' => Aside0 (Below W.heap.size W w')) (by kernel_rfl) ?_ (fun hHeld => ?_)
 ·exact ⟨(Below.refl _ _).drew⟩
 generalize World.drew _ = wD at hHeld ⊢
 have HCr := HF
 refine' tk 0 ?_
 try simp only [pt]
 refine' tk 1 ?_
 try simp only [pt]
 refine' tk 3 ?_
 try simp only [pt]
 refine' cm2 2 8 (fun K hK => ?ka) (fun K hK => ?kb)
 case ka =>
  go_simp
  have BO0 := Lib.hid hHeld.out
  refine (of_calls 27 cA cB _).mono ?_
  rintro e wO ⟨⟨gO, rfl, hgO⟩, bO⟩
  have HLO := Lib.hid (of_lies (op := 27) (a := cA) (b := cB) hgO (by unfold R64; omega) (HLA.out.below (BO0.out.trans (bO.mono BO0.out.size))) (HLB.out.below (BO0.out.trans (bO.mono BO0.out.size))))
  refine hK.out _ _ ⟨hHeld.out.trans (bO.mono hHeld.out.size)⟩ (fun hHeld => ?_)
  clear hK K
  try simp only [pt]
  clear hgO bO
  refine' cm2 4 8 (fun K hK => ?kc) (fun K hK => ?kd)
  case kc =>
   go_simp
   have hE := Eval_calls (HLO.out) (HV.out.below hHeld.out) (HT.out.below hHeld.out)
   rw [hX.out] at hE
   refine hE.mono ?_
   clear hE
   rintro e wE ⟨rfl, bE⟩
   refine hK.out _ _ ⟨hHeld.out.trans (bE.mono hHeld.out.size)⟩ (fun hHeld => ?_)
   clear hK K
   try simp only [pt]
   clear bE
   refine' tk 5 ?_
   try simp only [pt]
   refine' tk 6 ?_
   try simp only [pt]
   refine' tk 7 ?_
   try simp only [pt]
   refine' cm 8 (fun K hK => ?_)
   go_simp
   have kN := blk_new wE (.cells #[.int .i64 0, .int .i64 0] 34)
   have geN := hHeld.out.size
   obtain ⟨gN, hgN⟩ : ∃ x, wE.heap.size = x := ⟨_, rfl⟩
   have HGN := Lib.hid hgN
   rw [hgN] at kN geN
   clear hgN
   refine hK.out _ _ ⟨hHeld.out.alloc hHeld.out.size _⟩ (fun hHeld => ?_)
   clear hK K
   try simp only [pt]
   try rw [HGN.out]
   generalize World.alloc wE _ = wT at kN hHeld ⊢
   have r0 := (blk_cell kN 0).trans rfl
   have r1 := (blk_cell kN 1).trans rfl
   have f0 := blk_frozen kN 0
   have f1 := blk_frozen kN 1
   have HK2 := Lib.hid (res_put (c := .int .i64 xr) (d := .int .i64 xn) kN)
   have HB2 := Lib.hid ((hHeld.out.setCell (p := ⟨gN, 0, none⟩) geN (.int .i64 xr)).setCell (p := ⟨gN, 1, none⟩) geN (.int .i64 xn))
   clear kN geN hHeld
   refine' cm 9 (fun K hK => ?_)
   go_simp
   refine hK.out _ _ ⟨HB2.out⟩ (fun hHeld => ?_)
   clear hK K
   try simp only [pt]
   refine' cm 10 (fun K hK => ?_)
   go_simp
   refine hK.out _ _ ⟨HB2.out⟩ (fun hHeld => ?_)
   clear hK K
   try simp only [pt]
   refine wpAnyH_done (by kernel_rfl) ?_ _
   exact hJ gN _ _ _ _ _ _ _ _ _ _ HK2.out HB2.out
  case kd =>
   go_simp
   have kN := blk_new wO (.cells #[.int .i64 0, .int .i64 0] 34)
   have geN := hHeld.out.size
   obtain ⟨gN, hgN⟩ : ∃ x, wO.heap.size = x := ⟨_, rfl⟩
   have HGN := Lib.hid hgN
   rw [hgN] at kN geN
   clear hgN
   refine hK.out _ _ ⟨hHeld.out.alloc hHeld.out.size _⟩ (fun hHeld => ?_)
   clear hK K
   try simp only [pt]
   try rw [HGN.out]
   refine' cm 4 (fun K hK => ?_)
   go_simp
   have hE := Eval_calls (HLO.out.below (below_alloc (Below.refl _ _) _)) (HV.out.below hHeld.out) (HT.out.below hHeld.out)
   rw [hX.out] at hE
   refine hE.mono ?_
   clear hE
   rintro e wE ⟨rfl, bE⟩
   replace kN := blk_below kN bE
   refine hK.out _ _ ⟨hHeld.out.trans (bE.mono hHeld.out.size)⟩ (fun hHeld => ?_)
   clear hK K
   try simp only [pt]
   clear bE
   refine' tk 5 ?_
   try simp only [pt]
   refine' tk 6 ?_
   try simp only [pt]
   refine' tk 7 ?_
   try simp only [pt]
   have r0 := (blk_cell kN 0).trans rfl
   have r1 := (blk_cell kN 1).trans rfl
   have f0 := blk_frozen kN 0
   have f1 := blk_frozen kN 1
   have HK2 := Lib.hid (res_put (c := .int .i64 xr) (d := .int .i64 xn) kN)
   have HB2 := Lib.hid ((hHeld.out.setCell (p := ⟨gN, 0, none⟩) geN (.int .i64 xr)).setCell (p := ⟨gN, 1, none⟩) geN (.int .i64 xn))
   clear kN geN hHeld
   refine' cm 9 (fun K hK => ?_)
   go_simp
   refine hK.out _ _ ⟨HB2.out⟩ (fun hHeld => ?_)
   clear hK K
   try simp only [pt]
   refine' cm 10 (fun K hK => ?_)
   go_simp
   refine hK.out _ _ ⟨HB2.out⟩ (fun hHeld => ?_)
   clear hK K
   try simp only [pt]
   refine wpAnyH_done (by kernel_rfl) ?_ _
   exact hJ gN _ _ _ _ _ _ _ _ _ _ HK2.out HB2.out
 case kb =>
  go_simp
  have kN := blk_new wD (.cells #[.int .i64 0, .int .i64 0] 34)
  have geN := hHeld.out.size
  obtain ⟨gN, hgN⟩ : ∃ x, wD.heap.size = x := ⟨_, rfl⟩
  have HGN := Lib.hid hgN
  rw [hgN] at kN geN
  clear hgN
  refine hK.out _ _ ⟨hHeld.out.alloc hHeld.out.size _⟩ (fun hHeld => ?_)
  clear hK K
  try simp only [pt]
  try rw [HGN.out]
  refine' cm 2 (fun K hK => ?_)
  go_simp
  have BO0 := Lib.hid hHeld.out
  refine (of_calls 27 cA cB _).mono ?_
  rintro e wO ⟨⟨gO, rfl, hgO⟩, bO⟩
  have HLO := Lib.hid (of_lies (op := 27) (a := cA) (b := cB) hgO (by unfold R64; omega) (HLA.out.below (BO0.out.trans (bO.mono BO0.out.size))) (HLB.out.below (BO0.out.trans (bO.mono BO0.out.size))))
  replace kN := blk_below kN bO
  refine hK.out _ _ ⟨hHeld.out.trans (bO.mono hHeld.out.size)⟩ (fun hHeld => ?_)
  clear hK K
  try simp only [pt]
  clear hgO bO
  refine' cm 4 (fun K hK => ?_)
  go_simp
  have hE := Eval_calls (HLO.out) (HV.out.below hHeld.out) (HT.out.below hHeld.out)
  rw [hX.out] at hE
  refine hE.mono ?_
  clear hE
  rintro e wE ⟨rfl, bE⟩
  replace kN := blk_below kN bE
  refine hK.out _ _ ⟨hHeld.out.trans (bE.mono hHeld.out.size)⟩ (fun hHeld => ?_)
  clear hK K
  try simp only [pt]
  clear bE
  refine' tk 5 ?_
  try simp only [pt]
  refine' tk 6 ?_
  try simp only [pt]
  refine' tk 7 ?_
  try simp only [pt]
  have r0 := (blk_cell kN 0).trans rfl
  have r1 := (blk_cell kN 1).trans rfl
  have f0 := blk_frozen kN 0
  have f1 := blk_frozen kN 1
  have HK2 := Lib.hid (res_put (c := .int .i64 xr) (d := .int .i64 xn) kN)
  have HB2 := Lib.hid ((hHeld.out.setCell (p := ⟨gN, 0, none⟩) geN (.int .i64 xr)).setCell (p := ⟨gN, 1, none⟩) geN (.int .i64 xn))
  clear kN geN hHeld
  refine' cm 9 (fun K hK => ?_)
  go_simp
  refine hK.out _ _ ⟨HB2.out⟩ (fun hHeld => ?_)
  clear hK K
  try simp only [pt]
  refine' cm 10 (fun K hK => ?_)
  go_simp
  refine hK.out _ _ ⟨HB2.out⟩ (fun hHeld => ?_)
  clear hK K
  try simp only [pt]
  refine wpAnyH_done (by kernel_rfl) ?_ _
  exact hJ gN _ _ _ _ _ _ _ _ _ _ HK2.out HB2.out
theorem of_reg19 {J : Act → World → Prop} {Φ : Ending → World → Prop} {W : World} {v : En} {cA cB : Cr} {gA gB gE : Nat} {xr xn : Int} {dl : List Deferred} {u0 u1 u2 u3 u5 u6 u7 u8 u9 u10 u11 u12 u14 u15 u16 u17 u18 u19 u20 u21 u23 u24 u25 u26 u27 u28 u29 u30 u31 u32 u33 u34 u35 u36 u37 u38 u39 u40 u41 u42 u43 u44 u45 u46 u47 u48 u49 u50 u51 u52 u53 u54 u55 u56 u57 u58 u59 u60 u61 u62 u63 u64 u65 u66 u67 u68 u69 u70 u71 u72 u73 u74 u75 u76 u77 u78 u79 u80 u81 u82 u83 u84 u85 u86 u87 u88 u89 u90 u91 u92 u93 u94 u95 u96 u97 u98 u99 u100 u101 u102 u103 u104 u105 u106 u107 u108 u109 u110 u111 u112 u113 u114 u115 u116 u117 u118 u119 u120 u121 u122 u123 u124 u125 u126 u127 u128 u129 u130 u131 u132 u133 u134 u135 u136 u137 u138 u139 u140 u141 u142 u143 u144 u145 u146 u147 u148 u149 u150 u151 u152 u153 u154 u155 u156 u157 u158 u159 u160 u161 u162 u163 u164 u165 u166 u167 u168 u169 u170 u171 u172 u173 u174 u175 u176 u177 u178 u179 u180 u181 u182 u183 u184 u185 u186 u187 u188 u189 u190 u191 u192 u193 u194 : Value}
  (hV : EnvL W v) (hT : ErrT W) (hA : Lies W cA) (hB : Lies W cB)
  (hF : ∀ w', Below W.heap.size W w' → (w'.cell? ⟨gA, 0, none⟩ = some (.int .i64 cA.op) ∧ w'.cell? ⟨gA, 1, none⟩ = some (.int .i64 cA.n) ∧ w'.cell? ⟨gA, 2, none⟩ = some (.int .i64 cA.m) ∧ w'.cell? ⟨gA, 3, none⟩ = some (.slice cA.at_ cA.kids.length cA.cap)) ∧ (w'.cell? ⟨gB, 0, none⟩ = some (.int .i64 cB.op) ∧ w'.cell? ⟨gB, 1, none⟩ = some (.int .i64 cB.n) ∧ w'.cell? ⟨gB, 2, none⟩ = some (.int .i64 cB.m) ∧ w'.cell? ⟨gB, 3, none⟩ = some (.slice cB.at_ cB.kids.length cB.cap)) ∧ (w'.cell? ⟨gE, 0, none⟩ = some (.int .i64 v.rep) ∧ w'.cell? ⟨gE, 1, none⟩ = some (.slice v.wa v.wins.length v.wcap) ∧ w'.cell? ⟨gE, 2, none⟩ = some (.slice v.ca v.crons.length v.ccap)))
  (hX : ∀ (a : Option Addr) (k : Nat), EvalR v (.node 25 0 0 a k [cA, cB]) = (xr, xn, 0))
  (hJ : ∀ (gq : Nat) (q24 q143 q144 q145 q146 q147 q148 q149 q150 : Value) (wx : World), wx.heap[gq]? = some (.cells #[.int .i64 xr, .int .i64 xn] 34 (0, 0)) → Below W.heap.size W wx → J ⟨#[u0, u1, u2, u3, .pointer (some ⟨gE, 0, none⟩), u5, u6, u7, u8, u9, u10, u11, u12, .pointer (some ⟨gA, 0, none⟩), u14, u15, u16, u17, u18, u19, u20, u21, .pointer (some ⟨gB, 0, none⟩), .pointer (some ⟨gq, 0, none⟩), q24, u25, u26, u27, u28, u29, u30, u31, u32, u33, u34, u35, u36, u37, u38, u39, u40, u41, u42, u43, u44, u45, u46, u47, u48, u49, u50, u51, u52, u53, u54, u55, u56, u57, u58, u59, u60, u61, u62, u63, u64, u65, u66, u67, u68, u69, u70, u71, u72, u73, u74, u75, u76, u77, u78, u79, u80, u81, u82, u83, u84, u85, u86, u87, u88, u89, u90, u91, u92, u93, u94, u95, u96, u97, u98, u99, u100, u101, u102, u103, u104, u105, u106, u107, u108, u109, u110, u111, u112, u113, u114, u115, u116, u117, u118, u119, u120, u121, u122, u123, u124, u125, u126, u127, u128, u129, u130, u131, u132, u133, u134, u135, u136, u137, u138, u139, u140, u141, u142, q143, q144, q145, q146, q147, q148, q149, q150, u151, u152, u153, u154, u155, u156, u157, u158, u159, u160, u161, u162, u163, u164, u165, u166, u167, u168, u169, u170, u171, u172, u173, u174, u175, u176, u177, u178, u179, u180, u181, u182, u183, u184, u185, u186, u187, u188, u189, u190, u191, u192, u193, u194], dl⟩ wx) :
  (Code.region 19 #[{ dst := some 144, op := Go.Op.load 24 (Go.Operand.tmp 13), type := 24, pos := "law.go:97", after := #[], guard := none }, { dst := some 145, op := Go.Op.load 24 (Go.Operand.tmp 22), type := 24, pos := "law.go:97", after := #[], guard := none }, { dst := some 146, op := Go.Op.call { callee := Go.Callee.value (Go.Operand.func 10), args := #[Go.Operand.const (Go.Value.int Go.IntKind.i64 25), Go.Operand.tmp 144, Go.Operand.tmp 145], argTypes := #[3, 24, 24] }, type := 24, pos := "law.go:97", after := #[{ on := 0, ground := Go.Ground.data }, { on := 1, ground := Go.Ground.data }], guard := none }, { dst := some 147, op := Go.Op.load 28 (Go.Operand.tmp 4), type := 28, pos := "law.go:97", after := #[], guard := none }, { dst := some 148, op := Go.Op.call { callee := Go.Callee.value (Go.Operand.func 9), args := #[Go.Operand.tmp 146, Go.Operand.tmp 147], argTypes := #[24, 28] }, type := 36, pos := "law.go:97", after := #[{ on := 2, ground := Go.Ground.data }, { on := 3, ground := Go.Ground.data }, { on := 2, ground := Go.Ground.chain }], guard := none }, { dst := some 143, op := Go.Op.move (Go.Operand.tmp 148), type := 36, pos := "law.go:97", after := #[{ on := 4, ground := Go.Ground.data }], guard := none }, { dst := some 149, op := Go.Op.extract (Go.Operand.tmp 143) 0, type := 34, pos := "law.go:97", after := #[{ on := 5, ground := Go.Ground.data }], guard := none }, { dst := some 150, op := Go.Op.extract (Go.Operand.tmp 143) 1, type := 35, pos := "law.go:97", after := #[{ on := 5, ground := Go.Ground.data }, { on := 9, ground := Go.Ground.gcOnly Go.Departure.lateStores }], guard := none }, { dst := some 23, op := Go.Op.alloc 34, type := 0, pos := "law.go:97", after := #[], guard := none }, { dst := none, op := Go.Op.store 34 (Go.Operand.tmp 23) (Go.Operand.tmp 149), type := 0, pos := "law.go:97", after := #[{ on := 8, ground := Go.Ground.data }, { on := 6, ground := Go.Ground.data }, { on := 4, ground := Go.Ground.chain }, { on := 0, ground := Go.Ground.phase }, { on := 1, ground := Go.Ground.phase }, { on := 2, ground := Go.Ground.phase }, { on := 3, ground := Go.Ground.phase }, { on := 4, ground := Go.Ground.phase }, { on := 5, ground := Go.Ground.phase }, { on := 6, ground := Go.Ground.phase }, { on := 7, ground := Go.Ground.textOnly Go.Departure.lateStores }, { on := 8, ground := Go.Ground.phase }], guard := none }, { dst := some 24, op := Go.Op.assign (Go.Operand.tmp 150), type := 35, pos := "law.go:97", after := #[{ on := 7, ground := Go.Ground.data }, { on := 9, ground := Go.Ground.chain }, { on := 0, ground := Go.Ground.phase }, { on := 1, ground := Go.Ground.phase }, { on := 2, ground := Go.Ground.phase }, { on := 3, ground := Go.Ground.phase }, { on := 4, ground := Go.Ground.phase }, { on := 5, ground := Go.Ground.phase }, { on := 6, ground := Go.Ground.phase }, { on := 7, ground := Go.Ground.phase }, { on := 8, ground := Go.Ground.phase }, { on := 9, ground := Go.Ground.phase }], guard := none }] true).wp Tryd.prog (Exit.then J (bodyPost Tryd.prog Tryd.f3 Φ)) ⟨#[u0, u1, u2, u3, .pointer (some ⟨gE, 0, none⟩), u5, u6, u7, u8, u9, u10, u11, u12, .pointer (some ⟨gA, 0, none⟩), u14, u15, u16, u17, u18, u19, u20, u21, .pointer (some ⟨gB, 0, none⟩), u23, u24, u25, u26, u27, u28, u29, u30, u31, u32, u33, u34, u35, u36, u37, u38, u39, u40, u41, u42, u43, u44, u45, u46, u47, u48, u49, u50, u51, u52, u53, u54, u55, u56, u57, u58, u59, u60, u61, u62, u63, u64, u65, u66, u67, u68, u69, u70, u71, u72, u73, u74, u75, u76, u77, u78, u79, u80, u81, u82, u83, u84, u85, u86, u87, u88, u89, u90, u91, u92, u93, u94, u95, u96, u97, u98, u99, u100, u101, u102, u103, u104, u105, u106, u107, u108, u109, u110, u111, u112, u113, u114, u115, u116, u117, u118, u119, u120, u121, u122, u123, u124, u125, u126, u127, u128, u129, u130, u131, u132, u133, u134, u135, u136, u137, u138, u139, u140, u141, u142, u143, u144, u145, u146, u147, u148, u149, u150, u151, u152, u153, u154, u155, u156, u157, u158, u159, u160, u161, u162, u163, u164, u165, u166, u167, u168, u169, u170, u171, u172, u173, u174, u175, u176, u177, u178, u179, u180, u181, u182, u183, u184, u185, u186, u187, u188, u189, u190, u191, u192, u193, u194], dl⟩ W := by
 have HV := Lib.hid hV
 have HT := Lib.hid hT
 have HLA := Lib.hid hA
 have HLB := Lib.hid hB
 have HF := Lib.hid hF
 have hX := Lib.hid hX
 clear hV hT hA hB hF
 refine wp_region_held_drew (S := fun w' => Aside0 (Below W.heap.size W w')) (by kernel_rfl) ?_ (fun hHeld => ?_)
 ·exact ⟨(Below.refl _ _).drew⟩
 generalize World.drew _ = wD at hHeld ⊢
 have HCr := HF
 refine' tk 0 ?_
 try simp only [pt]
 refine' tk 1 ?_
 try simp only [pt]
 refine' tk 3 ?_
 try simp only [pt]
 refine' cm2 2 8 (fun K hK => ?ka) (fun K hK => ?kb)
 case ka =>
  go_simp
  have BO0 := Lib.hid hHeld.out
  refine (of_calls 25 cA cB _).mono ?_
  rintro e wO ⟨⟨gO, rfl, hgO⟩, bO⟩
  have HLO := Lib.hid (of_lies (op := 25) (a := cA) (b := cB) hgO (by unfold R64; omega) (HLA.out.below (BO0.out.trans (bO.mono BO0.out.size))) (HLB.out.below (BO0.out.trans (bO.mono BO0.out.size))))
  refine hK.out _ _ ⟨hHeld.out.trans (bO.mono hHeld.out.size)⟩ (fun hHeld => ?_)
  clear hK K
  try simp only [pt]
  clear hgO bO
  refine' cm2 4 8 (fun K hK => ?kc) (fun K hK => ?kd)
  case kc =>
   go_simp
   have hE := Eval_calls (HLO.out) (HV.out.below hHeld.out) (HT.out.below hHeld.out)
   rw [hX.out] at hE
   refine hE.mono ?_
   clear hE
   rintro e wE ⟨rfl, bE⟩
   refine hK.out _ _ ⟨hHeld.out.trans (bE.mono hHeld.out.size)⟩ (fun hHeld => ?_)
   clear hK K
   try simp only [pt]
   clear bE
   refine' tk 5 ?_
   try simp only [pt]
   refine' tk 6 ?_
   try simp only [pt]
   refine' tk 7 ?_
   try simp only [pt]
   refine' cm 8 (fun K hK => ?_)
   go_simp
   have kN := blk_new wE (.cells #[.int .i64 0, .int .i64 0] 34)
   have geN := hHeld.out.size
   obtain ⟨gN, hgN⟩ : ∃ x, wE.heap.size = x := ⟨_, rfl⟩
   have HGN := Lib.hid hgN
   rw [hgN] at kN geN
   clear hgN
   refine hK.out _ _ ⟨hHeld.out.alloc hHeld.out.size _⟩ (fun hHeld => ?_)
   clear hK K
   try simp only [pt]
   try rw [HGN.out]
   generalize World.alloc wE _ = wT at kN hHeld ⊢
   have r0 := (blk_cell kN 0).trans rfl
   have r1 := (blk_cell kN 1).trans rfl
   have f0 := blk_frozen kN 0
   have f1 := blk_frozen kN 1
   have HK2 := Lib.hid (res_put (c := .int .i64 xr) (d := .int .i64 xn) kN)
   have HB2 := Lib.hid ((hHeld.out.setCell (p := ⟨gN, 0, none⟩) geN (.int .i64 xr)).setCell (p := ⟨gN, 1, none⟩) geN (.int .i64 xn))
   clear kN geN hHeld
   refine' cm 9 (fun K hK => ?_)
   go_simp
   refine hK.out _ _ ⟨HB2.out⟩ (fun hHeld => ?_)
   clear hK K
   try simp only [pt]
   refine' cm 10 (fun K hK => ?_)
   go_simp
   refine hK.out _ _ ⟨HB2.out⟩ (fun hHeld => ?_)
   clear hK K
   try simp only [pt]
   refine wpAnyH_done (by kernel_rfl) ?_ _
   exact hJ gN _ _ _ _ _ _ _ _ _ _ HK2.out HB2.out
  case kd =>
   go_simp
   have kN := blk_new wO (.cells #[.int .i64 0, .int .i64 0] 34)
   have geN := hHeld.out.size
   obtain ⟨gN, hgN⟩ : ∃ x, wO.heap.size = x := ⟨_, rfl⟩
   have HGN := Lib.hid hgN
   rw [hgN] at kN geN
   clear hgN
   refine hK.out _ _ ⟨hHeld.out.alloc hHeld.out.size _⟩ (fun hHeld => ?_)
   clear hK K
   try simp only [pt]
   try rw [HGN.out]
   refine' cm 4 (fun K hK => ?_)
   go_simp
   have hE := Eval_calls (HLO.out.below (below_alloc (Below.refl _ _) _)) (HV.out.below hHeld.out) (HT.out.below hHeld.out)
   rw [hX.out] at hE
   refine hE.mono ?_
   clear hE
   rintro e wE ⟨rfl, bE⟩
   replace kN := blk_below kN bE
   refine hK.out _ _ ⟨hHeld.out.trans (bE.mono hHeld.out.size)⟩ (fun hHeld => ?_)
   clear hK K
   try simp only [pt]
   clear bE
   refine' tk 5 ?_
   try simp only [pt]
   refine' tk 6 ?_
   try simp only [pt]
   refine' tk 7 ?_
   try simp only [pt]
   have r0 := (blk_cell kN 0).trans rfl
   have r1 := (blk_cell kN 1).trans rfl
   have f0 := blk_frozen kN 0
   have f1 := blk_frozen kN 1
   have HK2 := Lib.hid (res_put (c := .int .i64 xr) (d := .int .i64 xn) kN)
   have HB2 := Lib.hid ((hHeld.out.setCell (p := ⟨gN, 0, none⟩) geN (.int .i64 xr)).setCell (p := ⟨gN, 1, none⟩) geN (.int .i64 xn))
   clear kN geN hHeld
   refine' cm 9 (fun K hK => ?_)
   go_simp
   refine hK.out _ _ ⟨HB2.out⟩ (fun hHeld => ?_)
   clear hK K
   try simp only [pt]
   refine' cm 10 (fun K hK => ?_)
   go_simp
   refine hK.out _ _ ⟨HB2.out⟩ (fun hHeld => ?_)
   clear hK K
   try simp only [pt]
   refine wpAnyH_done (by kernel_rfl) ?_ _
   exact hJ gN _ _ _ _ _ _ _ _ _ _ HK2.out HB2.out
 case kb =>
  go_simp
  have kN := blk_new wD (.cells #[.int .i64 0, .int .i64 0] 34)
  have geN := hHeld.out.size
  obtain ⟨gN, hgN⟩ : ∃ x, wD.heap.size = x := ⟨_, rfl⟩
  have HGN := Lib.hid hgN
  rw [hgN] at kN geN
  clear hgN
  refine hK.out _ _ ⟨hHeld.out.alloc hHeld.out.size _⟩ (fun hHeld => ?_)
  clear hK K
  try simp only [pt]
  try rw [HGN.out]
  refine' cm 2 (fun K hK => ?_)
  go_simp
  have BO0 := Lib.hid hHeld.out
  refine (of_calls 25 cA cB _).mono ?_
  rintro e wO ⟨⟨gO, rfl, hgO⟩, bO⟩
  have HLO := Lib.hid (of_lies (op := 25) (a := cA) (b := cB) hgO (by unfold R64; omega) (HLA.out.below (BO0.out.trans (bO.mono BO0.out.size))) (HLB.out.below (BO0.out.trans (bO.mono BO0.out.size))))
  replace kN := blk_below kN bO
  refine hK.out _ _ ⟨hHeld.out.trans (bO.mono hHeld.out.size)⟩ (fun hHeld => ?_)
  clear hK K
  try simp only [pt]
  clear hgO bO
  refine' cm 4 (fun K hK => ?_)
  go_simp
  have hE := Eval_calls (HLO.out) (HV.out.below hHeld.out) (HT.out.below hHeld.out)
  rw [hX.out] at hE
  refine hE.mono ?_
  clear hE
  rintro e wE ⟨rfl, bE⟩
  replace kN := blk_below kN bE
  refine hK.out _ _ ⟨hHeld.out.trans (bE.mono hHeld.out.size)⟩ (fun hHeld => ?_)
  clear hK K
  try simp only [pt]
  clear bE
  refine' tk 5 ?_
  try simp only [pt]
  refine' tk 6 ?_
  try simp only [pt]
  refine' tk 7 ?_
  try simp only [pt]
  have r0 := (blk_cell kN 0).trans rfl
  have r1 := (blk_cell kN 1).trans rfl
  have f0 := blk_frozen kN 0
  have f1 := blk_frozen kN 1
  have HK2 := Lib.hid (res_put (c := .int .i64 xr) (d := .int .i64 xn) kN)
  have HB2 := Lib.hid ((hHeld.out.setCell (p := ⟨gN, 0, none⟩) geN (.int .i64 xr)).setCell (p := ⟨gN, 1, none⟩) geN (.int .i64 xn))
  clear kN geN hHeld
  refine' cm 9 (fun K hK => ?_)
  go_simp
  refine hK.out _ _ ⟨HB2.out⟩ (fun hHeld => ?_)
  clear hK K
  try simp only [pt]
  refine' cm 10 (fun K hK => ?_)
  go_simp
  refine hK.out _ _ ⟨HB2.out⟩ (fun hHeld => ?_)
  clear hK K
  try simp only [pt]
  refine wpAnyH_done (by kernel_rfl) ?_ _
  exact hJ gN _ _ _ _ _ _ _ _ _ _ HK2.out HB2.out
theorem of_reg20 {J : Act → World → Prop} {Φ : Ending → World → Prop} {W : World} {v : En} {cA cB : Cr} {gA gB gE : Nat} {xr xn : Int} {dl : List Deferred} {u0 u1 u2 u3 u5 u6 u7 u8 u9 u10 u11 u13 u14 u15 u16 u17 u18 u19 u20 u21 u23 u24 u25 u26 u27 u28 u29 u30 u31 u32 u33 u34 u35 u36 u37 u38 u39 u40 u41 u42 u43 u44 u45 u46 u47 u48 u49 u50 u51 u52 u53 u54 u55 u56 u57 u58 u59 u60 u61 u62 u63 u64 u65 u66 u67 u68 u69 u70 u71 u72 u73 u74 u75 u76 u77 u78 u79 u80 u81 u82 u83 u84 u85 u86 u87 u88 u89 u90 u91 u92 u93 u94 u95 u96 u97 u98 u99 u100 u101 u102 u103 u104 u105 u106 u107 u108 u109 u110 u111 u112 u113 u114 u115 u116 u117 u118 u119 u120 u121 u122 u123 u124 u125 u126 u127 u128 u129 u130 u131 u132 u133 u134 u135 u136 u137 u138 u139 u140 u141 u142 u143 u144 u145 u146 u147 u148 u149 u150 u151 u152 u153 u154 u155 u156 u157 u158 u159 u160 u161 u162 u163 u164 u165 u166 u167 u168 u169 u170 u171 u172 u173 u174 u175 u176 u177 u178 u179 u180 u181 u182 u183 u184 u185 u186 u187 u188 u189 u190 u191 u192 u193 u194 : Value}
  (hV : EnvL W v) (hT : ErrT W) (hA : Lies W cA) (hB : Lies W cB)
  (hF : ∀ w', Below W.heap.size W w' → (w'.cell? ⟨gA, 0, none⟩ = some (.int .i64 cA.op) ∧ w'.cell? ⟨gA, 1, none⟩ = some (.int .i64 cA.n) ∧ w'.cell? ⟨gA, 2, none⟩ = some (.int .i64 cA.m) ∧ w'.cell? ⟨gA, 3, none⟩ = some (.slice cA.at_ cA.kids.length cA.cap)) ∧ (w'.cell? ⟨gB, 0, none⟩ = some (.int .i64 cB.op) ∧ w'.cell? ⟨gB, 1, none⟩ = some (.int .i64 cB.n) ∧ w'.cell? ⟨gB, 2, none⟩ = some (.int .i64 cB.m) ∧ w'.cell? ⟨gB, 3, none⟩ = some (.slice cB.at_ cB.kids.length cB.cap)) ∧ (w'.cell? ⟨gE, 0, none⟩ = some (.int .i64 v.rep) ∧ w'.cell? ⟨gE, 1, none⟩ = some (.slice v.wa v.wins.length v.wcap) ∧ w'.cell? ⟨gE, 2, none⟩ = some (.slice v.ca v.crons.length v.ccap)))
  (hX : ∀ (a : Option Addr) (k : Nat), EvalR v (.node 26 0 0 a k [cA, cB]) = (xr, xn, 0))
  (hJ : ∀ (gq : Nat) (q26 q151 q152 q153 q154 q155 q156 q157 q158 : Value) (wx : World), wx.heap[gq]? = some (.cells #[.int .i64 xr, .int .i64 xn] 34 (0, 0)) → Below W.heap.size W wx → J ⟨#[u0, u1, u2, u3, .pointer (some ⟨gE, 0, none⟩), u5, u6, u7, u8, u9, u10, u11, .pointer (some ⟨gA, 0, none⟩), u13, u14, u15, u16, u17, u18, u19, u20, u21, .pointer (some ⟨gB, 0, none⟩), u23, u24, .pointer (some ⟨gq, 0, none⟩), q26, u27, u28, u29, u30, u31, u32, u33, u34, u35, u36, u37, u38, u39, u40, u41, u42, u43, u44, u45, u46, u47, u48, u49, u50, u51, u52, u53, u54, u55, u56, u57, u58, u59, u60, u61, u62, u63, u64, u65, u66, u67, u68, u69, u70, u71, u72, u73, u74, u75, u76, u77, u78, u79, u80, u81, u82, u83, u84, u85, u86, u87, u88, u89, u90, u91, u92, u93, u94, u95, u96, u97, u98, u99, u100, u101, u102, u103, u104, u105, u106, u107, u108, u109, u110, u111, u112, u113, u114, u115, u116, u117, u118, u119, u120, u121, u122, u123, u124, u125, u126, u127, u128, u129, u130, u131, u132, u133, u134, u135, u136, u137, u138, u139, u140, u141, u142, u143, u144, u145, u146, u147, u148, u149, u150, q151, q152, q153, q154, q155, q156, q157, q158, u159, u160, u161, u162, u163, u164, u165, u166, u167, u168, u169, u170, u171, u172, u173, u174, u175, u176, u177, u178, u179, u180, u181, u182, u183, u184, u185, u186, u187, u188, u189, u190, u191, u192, u193, u194], dl⟩ wx) :
  (Code.region 20 #[{ dst := some 152, op := Go.Op.load 24 (Go.Operand.tmp 12), type := 24, pos := "law.go:98", after := #[], guard := none }, { dst := some 153, op := Go.Op.load 24 (Go.Operand.tmp 22), type := 24, pos := "law.go:98", after := #[], guard := none }, { dst := some 154, op := Go.Op.call { callee := Go.Callee.value (Go.Operand.func 10), args := #[Go.Operand.const (Go.Value.int Go.IntKind.i64 26), Go.Operand.tmp 152, Go.Operand.tmp 153], argTypes := #[3, 24, 24] }, type := 24, pos := "law.go:98", after := #[{ on := 0, ground := Go.Ground.data }, { on := 1, ground := Go.Ground.data }], guard := none }, { dst := some 155, op := Go.Op.load 28 (Go.Operand.tmp 4), type := 28, pos := "law.go:98", after := #[], guard := none }, { dst := some 156, op := Go.Op.call { callee := Go.Callee.value (Go.Operand.func 9), args := #[Go.Operand.tmp 154, Go.Operand.tmp 155], argTypes := #[24, 28] }, type := 36, pos := "law.go:98", after := #[{ on := 2, ground := Go.Ground.data }, { on := 3, ground := Go.Ground.data }, { on := 2, ground := Go.Ground.chain }], guard := none }, { dst := some 151, op := Go.Op.move (Go.Operand.tmp 156), type := 36, pos := "law.go:98", after := #[{ on := 4, ground := Go.Ground.data }], guard := none }, { dst := some 157, op := Go.Op.extract (Go.Operand.tmp 151) 0, type := 34, pos := "law.go:98", after := #[{ on := 5, ground := Go.Ground.data }], guard := none }, { dst := some 158, op := Go.Op.extract (Go.Operand.tmp 151) 1, type := 35, pos := "law.go:98", after := #[{ on := 5, ground := Go.Ground.data }, { on := 9, ground := Go.Ground.gcOnly Go.Departure.lateStores }], guard := none }, { dst := some 25, op := Go.Op.alloc 34, type := 0, pos := "law.go:98", after := #[], guard := none }, { dst := none, op := Go.Op.store 34 (Go.Operand.tmp 25) (Go.Operand.tmp 157), type := 0, pos := "law.go:98", after := #[{ on := 8, ground := Go.Ground.data }, { on := 6, ground := Go.Ground.data }, { on := 4, ground := Go.Ground.chain }, { on := 0, ground := Go.Ground.phase }, { on := 1, ground := Go.Ground.phase }, { on := 2, ground := Go.Ground.phase }, { on := 3, ground := Go.Ground.phase }, { on := 4, ground := Go.Ground.phase }, { on := 5, ground := Go.Ground.phase }, { on := 6, ground := Go.Ground.phase }, { on := 7, ground := Go.Ground.textOnly Go.Departure.lateStores }, { on := 8, ground := Go.Ground.phase }], guard := none }, { dst := some 26, op := Go.Op.assign (Go.Operand.tmp 158), type := 35, pos := "law.go:98", after := #[{ on := 7, ground := Go.Ground.data }, { on := 9, ground := Go.Ground.chain }, { on := 0, ground := Go.Ground.phase }, { on := 1, ground := Go.Ground.phase }, { on := 2, ground := Go.Ground.phase }, { on := 3, ground := Go.Ground.phase }, { on := 4, ground := Go.Ground.phase }, { on := 5, ground := Go.Ground.phase }, { on := 6, ground := Go.Ground.phase }, { on := 7, ground := Go.Ground.phase }, { on := 8, ground := Go.Ground.phase }, { on := 9, ground := Go.Ground.phase }], guard := none }] true).wp Tryd.prog (Exit.then J (bodyPost Tryd.prog Tryd.f3 Φ)) ⟨#[u0, u1, u2, u3, .pointer (some ⟨gE, 0, none⟩), u5, u6, u7, u8, u9, u10, u11, .pointer (some ⟨gA, 0, none⟩), u13, u14, u15, u16, u17, u18, u19, u20, u21, .pointer (some ⟨gB, 0, none⟩), u23, u24, u25, u26, u27, u28, u29, u30, u31, u32, u33, u34, u35, u36, u37, u38, u39, u40, u41, u42, u43, u44, u45, u46, u47, u48, u49, u50, u51, u52, u53, u54, u55, u56, u57, u58, u59, u60, u61, u62, u63, u64, u65, u66, u67, u68, u69, u70, u71, u72, u73, u74, u75, u76, u77, u78, u79, u80, u81, u82, u83, u84, u85, u86, u87, u88, u89, u90, u91, u92, u93, u94, u95, u96, u97, u98, u99, u100, u101, u102, u103, u104, u105, u106, u107, u108, u109, u110, u111, u112, u113, u114, u115, u116, u117, u118, u119, u120, u121, u122, u123, u124, u125, u126, u127, u128, u129, u130, u131, u132, u133, u134, u135, u136, u137, u138, u139, u140, u141, u142, u143, u144, u145, u146, u147, u148, u149, u150, u151, u152, u153, u154, u155, u156, u157, u158, u159, u160, u161, u162, u163, u164, u165, u166, u167, u168, u169, u170, u171, u172, u173, u174, u175, u176, u177, u178, u179, u180, u181, u182, u183, u184, u185, u186, u187, u188, u189, u190, u191, u192, u193, u194], dl⟩ W := by
 have HV := Lib.hid hV
 have HT := Lib.hid hT
 have HLA := Lib.hid hA
 have HLB := Lib.hid hB
 have HF := Lib.hid hF
 have hX := Lib.hid hX
 clear hV hT hA hB hF
 refine wp_region_held_drew (S := fun w' => Aside0 (Below W.heap.size W w')) (by kernel_rfl) ?_ (fun hHeld => ?_)
 ·exact ⟨(Below.refl _ _).drew⟩
 generalize World.drew _ = wD at hHeld ⊢
 have HCr := HF
 refine' tk 0 ?_
 try simp only [pt]
 refine' tk 1 ?_
 try simp only [pt]
 refine' tk 3 ?_
 try simp only [pt]
 refine' cm2 2 8 (fun K hK => ?ka) (fun K hK => ?kb)
 case ka =>
  go_simp
  have BO0 := Lib.hid hHeld.out
  refine (of_calls 26 cA cB _).mono ?_
  rintro e wO ⟨⟨gO, rfl, hgO⟩, bO⟩
  have HLO := Lib.hid (of_lies (op := 26) (a := cA) (b := cB) hgO (by unfold R64; omega) (HLA.out.below (BO0.out.trans (bO.mono BO0.out.size))) (HLB.out.below (BO0.out.trans (bO.mono BO0.out.size))))
  refine hK.out _ _ ⟨hHeld.out.trans (bO.mono hHeld.out.size)⟩ (fun hHeld => ?_)
  clear hK K
  try simp only [pt]
  clear hgO bO
  refine' cm2 4 8 (fun K hK => ?kc) (fun K hK => ?kd)
  case kc =>
   go_simp
   have hE := Eval_calls (HLO.out) (HV.out.below hHeld.out) (HT.out.below hHeld.out)
   rw [hX.out] at hE
   refine hE.mono ?_
   clear hE
   rintro e wE ⟨rfl, bE⟩
   refine hK.out _ _ ⟨hHeld.out.trans (bE.mono hHeld.out.size)⟩ (fun hHeld => ?_)
   clear hK K
   try simp only [pt]
   clear bE
   refine' tk 5 ?_
   try simp only [pt]
   refine' tk 6 ?_
   try simp only [pt]
   refine' tk 7 ?_
   try simp only [pt]
   refine' cm 8 (fun K hK => ?_)
   go_simp
   have kN := blk_new wE (.cells #[.int .i64 0, .int .i64 0] 34)
   have geN := hHeld.out.size
   obtain ⟨gN, hgN⟩ : ∃ x, wE.heap.size = x := ⟨_, rfl⟩
   have HGN := Lib.hid hgN
   rw [hgN] at kN geN
   clear hgN
   refine hK.out _ _ ⟨hHeld.out.alloc hHeld.out.size _⟩ (fun hHeld => ?_)
   clear hK K
   try simp only [pt]
   try rw [HGN.out]
   generalize World.alloc wE _ = wT at kN hHeld ⊢
   have r0 := (blk_cell kN 0).trans rfl
   have r1 := (blk_cell kN 1).trans rfl
   have f0 := blk_frozen kN 0
   have f1 := blk_frozen kN 1
   have HK2 := Lib.hid (res_put (c := .int .i64 xr) (d := .int .i64 xn) kN)
   have HB2 := Lib.hid ((hHeld.out.setCell (p := ⟨gN, 0, none⟩) geN (.int .i64 xr)).setCell (p := ⟨gN, 1, none⟩) geN (.int .i64 xn))
   clear kN geN hHeld
   refine' cm 9 (fun K hK => ?_)
   go_simp
   refine hK.out _ _ ⟨HB2.out⟩ (fun hHeld => ?_)
   clear hK K
   try simp only [pt]
   refine' cm 10 (fun K hK => ?_)
   go_simp
   refine hK.out _ _ ⟨HB2.out⟩ (fun hHeld => ?_)
   clear hK K
   try simp only [pt]
   refine wpAnyH_done (by kernel_rfl) ?_ _
   exact hJ gN _ _ _ _ _ _ _ _ _ _ HK2.out HB2.out
  case kd =>
   go_simp
   have kN := blk_new wO (.cells #[.int .i64 0, .int .i64 0] 34)
   have geN := hHeld.out.size
   obtain ⟨gN, hgN⟩ : ∃ x, wO.heap.size = x := ⟨_, rfl⟩
   have HGN := Lib.hid hgN
   rw [hgN] at kN geN
   clear hgN
   refine hK.out _ _ ⟨hHeld.out.alloc hHeld.out.size _⟩ (fun hHeld => ?_)
   clear hK K
   try simp only [pt]
   try rw [HGN.out]
   refine' cm 4 (fun K hK => ?_)
   go_simp
   have hE := Eval_calls (HLO.out.below (below_alloc (Below.refl _ _) _)) (HV.out.below hHeld.out) (HT.out.below hHeld.out)
   rw [hX.out] at hE
   refine hE.mono ?_
   clear hE
   rintro e wE ⟨rfl, bE⟩
   replace kN := blk_below kN bE
   refine hK.out _ _ ⟨hHeld.out.trans (bE.mono hHeld.out.size)⟩ (fun hHeld => ?_)
   clear hK K
   try simp only [pt]
   clear bE
   refine' tk 5 ?_
   try simp only [pt]
   refine' tk 6 ?_
   try simp only [pt]
   refine' tk 7 ?_
   try simp only [pt]
   have r0 := (blk_cell kN 0).trans rfl
   have r1 := (blk_cell kN 1).trans rfl
   have f0 := blk_frozen kN 0
   have f1 := blk_frozen kN 1
   have HK2 := Lib.hid (res_put (c := .int .i64 xr) (d := .int .i64 xn) kN)
   have HB2 := Lib.hid ((hHeld.out.setCell (p := ⟨gN, 0, none⟩) geN (.int .i64 xr)).setCell (p := ⟨gN, 1, none⟩) geN (.int .i64 xn))
   clear kN geN hHeld
   refine' cm 9 (fun K hK => ?_)
   go_simp
   refine hK.out _ _ ⟨HB2.out⟩ (fun hHeld => ?_)
   clear hK K
   try simp only [pt]
   refine' cm 10 (fun K hK => ?_)
   go_simp
   refine hK.out _ _ ⟨HB2.out⟩ (fun hHeld => ?_)
   clear hK K
   try simp only [pt]
   refine wpAnyH_done (by kernel_rfl) ?_ _
   exact hJ gN _ _ _ _ _ _ _ _ _ _ HK2.out HB2.out
 case kb =>
  go_simp
  have kN := blk_new wD (.cells #[.int .i64 0, .int .i64 0] 34)
  have geN := hHeld.out.size
  obtain ⟨gN, hgN⟩ : ∃ x, wD.heap.size = x := ⟨_, rfl⟩
  have HGN := Lib.hid hgN
  rw [hgN] at kN geN
  clear hgN
  refine hK.out _ _ ⟨hHeld.out.alloc hHeld.out.size _⟩ (fun hHeld => ?_)
  clear hK K
  try simp only [pt]
  try rw [HGN.out]
  refine' cm 2 (fun K hK => ?_)
  go_simp
  have BO0 := Lib.hid hHeld.out
  refine (of_calls 26 cA cB _).mono ?_
  rintro e wO ⟨⟨gO, rfl, hgO⟩, bO⟩
  have HLO := Lib.hid (of_lies (op := 26) (a := cA) (b := cB) hgO (by unfold R64; omega) (HLA.out.below (BO0.out.trans (bO.mono BO0.out.size))) (HLB.out.below (BO0.out.trans (bO.mono BO0.out.size))))
  replace kN := blk_below kN bO
  refine hK.out _ _ ⟨hHeld.out.trans (bO.mono hHeld.out.size)⟩ (fun hHeld => ?_)
  clear hK K
  try simp only [pt]
  clear hgO bO
  refine' cm 4 (fun K hK => ?_)
  go_simp
  have hE := Eval_calls (HLO.out) (HV.out.below hHeld.out) (HT.out.below hHeld.out)
  rw [hX.out] at hE
  refine hE.mono ?_
  clear hE
  rintro e wE ⟨rfl, bE⟩
  replace kN := blk_below kN bE
  refine hK.out _ _ ⟨hHeld.out.trans (bE.mono hHeld.out.size)⟩ (fun hHeld => ?_)
  clear hK K
  try simp only [pt]
  clear bE
  refine' tk 5 ?_
  try simp only [pt]
  refine' tk 6 ?_
  try simp only [pt]
  refine' tk 7 ?_
  try simp only [pt]
  have r0 := (blk_cell kN 0).trans rfl
  have r1 := (blk_cell kN 1).trans rfl
  have f0 := blk_frozen kN 0
  have f1 := blk_frozen kN 1
  have HK2 := Lib.hid (res_put (c := .int .i64 xr) (d := .int .i64 xn) kN)
  have HB2 := Lib.hid ((hHeld.out.setCell (p := ⟨gN, 0, none⟩) geN (.int .i64 xr)).setCell (p := ⟨gN, 1, none⟩) geN (.int .i64 xn))
  clear kN geN hHeld
  refine' cm 9 (fun K hK => ?_)
  go_simp
  refine hK.out _ _ ⟨HB2.out⟩ (fun hHeld => ?_)
  clear hK K
  try simp only [pt]
  refine' cm 10 (fun K hK => ?_)
  go_simp
  refine hK.out _ _ ⟨HB2.out⟩ (fun hHeld => ?_)
  clear hK K
  try simp only [pt]
  refine wpAnyH_done (by kernel_rfl) ?_ _
  exact hJ gN _ _ _ _ _ _ _ _ _ _ HK2.out HB2.out
theorem of_reg21 {J : Act → World → Prop} {Φ : Ending → World → Prop} {W : World} {v : En} {cA cB : Cr} {gA gB gE : Nat} {xr xn : Int} {dl : List Deferred} {u0 u1 u2 u3 u5 u6 u7 u8 u9 u10 u11 u13 u14 u15 u16 u17 u18 u19 u20 u21 u23 u24 u25 u26 u27 u28 u29 u30 u31 u32 u33 u34 u35 u36 u37 u38 u39 u40 u41 u42 u43 u44 u45 u46 u47 u48 u49 u50 u51 u52 u53 u54 u55 u56 u57 u58 u59 u60 u61 u62 u63 u64 u65 u66 u67 u68 u69 u70 u71 u72 u73 u74 u75 u76 u77 u78 u79 u80 u81 u82 u83 u84 u85 u86 u87 u88 u89 u90 u91 u92 u93 u94 u95 u96 u97 u98 u99 u100 u101 u102 u103 u104 u105 u106 u107 u108 u109 u110 u111 u112 u113 u114 u115 u116 u117 u118 u119 u120 u121 u122 u123 u124 u125 u126 u127 u128 u129 u130 u131 u132 u133 u134 u135 u136 u137 u138 u139 u140 u141 u142 u143 u144 u145 u146 u147 u148 u149 u150 u151 u152 u153 u154 u155 u156 u157 u158 u159 u160 u161 u162 u163 u164 u165 u166 u167 u168 u169 u170 u171 u172 u173 u174 u175 u176 u177 u178 u179 u180 u181 u182 u183 u184 u185 u186 u187 u188 u189 u190 u191 u192 u193 u194 : Value}
  (hV : EnvL W v) (hT : ErrT W) (hA : Lies W cA) (hB : Lies W cB)
  (hF : ∀ w', Below W.heap.size W w' → (w'.cell? ⟨gA, 0, none⟩ = some (.int .i64 cA.op) ∧ w'.cell? ⟨gA, 1, none⟩ = some (.int .i64 cA.n) ∧ w'.cell? ⟨gA, 2, none⟩ = some (.int .i64 cA.m) ∧ w'.cell? ⟨gA, 3, none⟩ = some (.slice cA.at_ cA.kids.length cA.cap)) ∧ (w'.cell? ⟨gB, 0, none⟩ = some (.int .i64 cB.op) ∧ w'.cell? ⟨gB, 1, none⟩ = some (.int .i64 cB.n) ∧ w'.cell? ⟨gB, 2, none⟩ = some (.int .i64 cB.m) ∧ w'.cell? ⟨gB, 3, none⟩ = some (.slice cB.at_ cB.kids.length cB.cap)) ∧ (w'.cell? ⟨gE, 0, none⟩ = some (.int .i64 v.rep) ∧ w'.cell? ⟨gE, 1, none⟩ = some (.slice v.wa v.wins.length v.wcap) ∧ w'.cell? ⟨gE, 2, none⟩ = some (.slice v.ca v.crons.length v.ccap)))
  (hX : ∀ (a : Option Addr) (k : Nat), EvalR v (.node 25 0 0 a k [cA, cB]) = (xr, xn, 0))
  (hJ : ∀ (gq : Nat) (q28 q159 q160 q161 q162 q163 q164 q165 q166 : Value) (wx : World), wx.heap[gq]? = some (.cells #[.int .i64 xr, .int .i64 xn] 34 (0, 0)) → Below W.heap.size W wx → J ⟨#[u0, u1, u2, u3, .pointer (some ⟨gE, 0, none⟩), u5, u6, u7, u8, u9, u10, u11, .pointer (some ⟨gA, 0, none⟩), u13, u14, u15, u16, u17, u18, u19, u20, u21, .pointer (some ⟨gB, 0, none⟩), u23, u24, u25, u26, .pointer (some ⟨gq, 0, none⟩), q28, u29, u30, u31, u32, u33, u34, u35, u36, u37, u38, u39, u40, u41, u42, u43, u44, u45, u46, u47, u48, u49, u50, u51, u52, u53, u54, u55, u56, u57, u58, u59, u60, u61, u62, u63, u64, u65, u66, u67, u68, u69, u70, u71, u72, u73, u74, u75, u76, u77, u78, u79, u80, u81, u82, u83, u84, u85, u86, u87, u88, u89, u90, u91, u92, u93, u94, u95, u96, u97, u98, u99, u100, u101, u102, u103, u104, u105, u106, u107, u108, u109, u110, u111, u112, u113, u114, u115, u116, u117, u118, u119, u120, u121, u122, u123, u124, u125, u126, u127, u128, u129, u130, u131, u132, u133, u134, u135, u136, u137, u138, u139, u140, u141, u142, u143, u144, u145, u146, u147, u148, u149, u150, u151, u152, u153, u154, u155, u156, u157, u158, q159, q160, q161, q162, q163, q164, q165, q166, u167, u168, u169, u170, u171, u172, u173, u174, u175, u176, u177, u178, u179, u180, u181, u182, u183, u184, u185, u186, u187, u188, u189, u190, u191, u192, u193, u194], dl⟩ wx) :
  (Code.region 21 #[{ dst := some 160, op := Go.Op.load 24 (Go.Operand.tmp 12), type := 24, pos := "law.go:99", after := #[], guard := none }, { dst := some 161, op := Go.Op.load 24 (Go.Operand.tmp 22), type := 24, pos := "law.go:99", after := #[], guard := none }, { dst := some 162, op := Go.Op.call { callee := Go.Callee.value (Go.Operand.func 10), args := #[Go.Operand.const (Go.Value.int Go.IntKind.i64 25), Go.Operand.tmp 160, Go.Operand.tmp 161], argTypes := #[3, 24, 24] }, type := 24, pos := "law.go:99", after := #[{ on := 0, ground := Go.Ground.data }, { on := 1, ground := Go.Ground.data }], guard := none }, { dst := some 163, op := Go.Op.load 28 (Go.Operand.tmp 4), type := 28, pos := "law.go:99", after := #[], guard := none }, { dst := some 164, op := Go.Op.call { callee := Go.Callee.value (Go.Operand.func 9), args := #[Go.Operand.tmp 162, Go.Operand.tmp 163], argTypes := #[24, 28] }, type := 36, pos := "law.go:99", after := #[{ on := 2, ground := Go.Ground.data }, { on := 3, ground := Go.Ground.data }, { on := 2, ground := Go.Ground.chain }], guard := none }, { dst := some 159, op := Go.Op.move (Go.Operand.tmp 164), type := 36, pos := "law.go:99", after := #[{ on := 4, ground := Go.Ground.data }], guard := none }, { dst := some 165, op := Go.Op.extract (Go.Operand.tmp 159) 0, type := 34, pos := "law.go:99", after := #[{ on := 5, ground := Go.Ground.data }], guard := none }, { dst := some 166, op := Go.Op.extract (Go.Operand.tmp 159) 1, type := 35, pos := "law.go:99", after := #[{ on := 5, ground := Go.Ground.data }, { on := 9, ground := Go.Ground.gcOnly Go.Departure.lateStores }], guard := none }, { dst := some 27, op := Go.Op.alloc 34, type := 0, pos := "law.go:99", after := #[], guard := none }, { dst := none, op := Go.Op.store 34 (Go.Operand.tmp 27) (Go.Operand.tmp 165), type := 0, pos := "law.go:99", after := #[{ on := 8, ground := Go.Ground.data }, { on := 6, ground := Go.Ground.data }, { on := 4, ground := Go.Ground.chain }, { on := 0, ground := Go.Ground.phase }, { on := 1, ground := Go.Ground.phase }, { on := 2, ground := Go.Ground.phase }, { on := 3, ground := Go.Ground.phase }, { on := 4, ground := Go.Ground.phase }, { on := 5, ground := Go.Ground.phase }, { on := 6, ground := Go.Ground.phase }, { on := 7, ground := Go.Ground.textOnly Go.Departure.lateStores }, { on := 8, ground := Go.Ground.phase }], guard := none }, { dst := some 28, op := Go.Op.assign (Go.Operand.tmp 166), type := 35, pos := "law.go:99", after := #[{ on := 7, ground := Go.Ground.data }, { on := 9, ground := Go.Ground.chain }, { on := 0, ground := Go.Ground.phase }, { on := 1, ground := Go.Ground.phase }, { on := 2, ground := Go.Ground.phase }, { on := 3, ground := Go.Ground.phase }, { on := 4, ground := Go.Ground.phase }, { on := 5, ground := Go.Ground.phase }, { on := 6, ground := Go.Ground.phase }, { on := 7, ground := Go.Ground.phase }, { on := 8, ground := Go.Ground.phase }, { on := 9, ground := Go.Ground.phase }], guard := none }] true).wp Tryd.prog (Exit.then J (bodyPost Tryd.prog Tryd.f3 Φ)) ⟨#[u0, u1, u2, u3, .pointer (some ⟨gE, 0, none⟩), u5, u6, u7, u8, u9, u10, u11, .pointer (some ⟨gA, 0, none⟩), u13, u14, u15, u16, u17, u18, u19, u20, u21, .pointer (some ⟨gB, 0, none⟩), u23, u24, u25, u26, u27, u28, u29, u30, u31, u32, u33, u34, u35, u36, u37, u38, u39, u40, u41, u42, u43, u44, u45, u46, u47, u48, u49, u50, u51, u52, u53, u54, u55, u56, u57, u58, u59, u60, u61, u62, u63, u64, u65, u66, u67, u68, u69, u70, u71, u72, u73, u74, u75, u76, u77, u78, u79, u80, u81, u82, u83, u84, u85, u86, u87, u88, u89, u90, u91, u92, u93, u94, u95, u96, u97, u98, u99, u100, u101, u102, u103, u104, u105, u106, u107, u108, u109, u110, u111, u112, u113, u114, u115, u116, u117, u118, u119, u120, u121, u122, u123, u124, u125, u126, u127, u128, u129, u130, u131, u132, u133, u134, u135, u136, u137, u138, u139, u140, u141, u142, u143, u144, u145, u146, u147, u148, u149, u150, u151, u152, u153, u154, u155, u156, u157, u158, u159, u160, u161, u162, u163, u164, u165, u166, u167, u168, u169, u170, u171, u172, u173, u174, u175, u176, u177, u178, u179, u180, u181, u182, u183, u184, u185, u186, u187, u188, u189, u190, u191, u192, u193, u194], dl⟩ W := by
 have HV := Lib.hid hV
 have HT := Lib.hid hT
 have HLA := Lib.hid hA
 have HLB := Lib.hid hB
 have HF := Lib.hid hF
 have hX := Lib.hid hX
 clear hV hT hA hB hF
 refine wp_region_held_drew (S := fun w' => Aside0 (Below W.heap.size W w')) (by kernel_rfl) ?_ (fun hHeld => ?_)
 ·exact ⟨(Below.refl _ _).drew⟩
 generalize World.drew _ = wD at hHeld ⊢
 have HCr := HF
 refine' tk 0 ?_
 try simp only [pt]
 refine' tk 1 ?_
 try simp only [pt]
 refine' tk 3 ?_
 try simp only [pt]
 refine' cm2 2 8 (fun K hK => ?ka) (fun K hK => ?kb)
 case ka =>
  go_simp
  have BO0 := Lib.hid hHeld.out
  refine (of_calls 25 cA cB _).mono ?_
  rintro e wO ⟨⟨gO, rfl, hgO⟩, bO⟩
  have HLO := Lib.hid (of_lies (op := 25) (a := cA) (b := cB) hgO (by unfold R64; omega) (HLA.out.below (BO0.out.trans (bO.mono BO0.out.size))) (HLB.out.below (BO0.out.trans (bO.mono BO0.out.size))))
  refine hK.out _ _ ⟨hHeld.out.trans (bO.mono hHeld.out.size)⟩ (fun hHeld => ?_)
  clear hK K
  try simp only [pt]
  clear hgO bO
  refine' cm2 4 8 (fun K hK => ?kc) (fun K hK => ?kd)
  case kc =>
   go_simp
   have hE := Eval_calls (HLO.out) (HV.out.below hHeld.out) (HT.out.below hHeld.out)
   rw [hX.out] at hE
   refine hE.mono ?_
   clear hE
   rintro e wE ⟨rfl, bE⟩
   refine hK.out _ _ ⟨hHeld.out.trans (bE.mono hHeld.out.size)⟩ (fun hHeld => ?_)
   clear hK K
   try simp only [pt]
   clear bE
   refine' tk 5 ?_
   try simp only [pt]
   refine' tk 6 ?_
   try simp only [pt]
   refine' tk 7 ?_
   try simp only [pt]
   refine' cm 8 (fun K hK => ?_)
   go_simp
   have kN := blk_new wE (.cells #[.int .i64 0, .int .i64 0] 34)
   have geN := hHeld.out.size
   obtain ⟨gN, hgN⟩ : ∃ x, wE.heap.size = x := ⟨_, rfl⟩
   have HGN := Lib.hid hgN
   rw [hgN] at kN geN
   clear hgN
   refine hK.out _ _ ⟨hHeld.out.alloc hHeld.out.size _⟩ (fun hHeld => ?_)
   clear hK K
   try simp only [pt]
   try rw [HGN.out]
   generalize World.alloc wE _ = wT at kN hHeld ⊢
   have r0 := (blk_cell kN 0).trans rfl
   have r1 := (blk_cell kN 1).trans rfl
   have f0 := blk_frozen kN 0
   have f1 := blk_frozen kN 1
   have HK2 := Lib.hid (res_put (c := .int .i64 xr) (d := .int .i64 xn) kN)
   have HB2 := Lib.hid ((hHeld.out.setCell (p := ⟨gN, 0, none⟩) geN (.int .i64 xr)).setCell (p := ⟨gN, 1, none⟩) geN (.int .i64 xn))
   clear kN geN hHeld
   refine' cm 9 (fun K hK => ?_)
   go_simp
   refine hK.out _ _ ⟨HB2.out⟩ (fun hHeld => ?_)
   clear hK K
   try simp only [pt]
   refine' cm 10 (fun K hK => ?_)
   go_simp
   refine hK.out _ _ ⟨HB2.out⟩ (fun hHeld => ?_)
   clear hK K
   try simp only [pt]
   refine wpAnyH_done (by kernel_rfl) ?_ _
   exact hJ gN _ _ _ _ _ _ _ _ _ _ HK2.out HB2.out
  case kd =>
   go_simp
   have kN := blk_new wO (.cells #[.int .i64 0, .int .i64 0] 34)
   have geN := hHeld.out.size
   obtain ⟨gN, hgN⟩ : ∃ x, wO.heap.size = x := ⟨_, rfl⟩
   have HGN := Lib.hid hgN
   rw [hgN] at kN geN
   clear hgN
   refine hK.out _ _ ⟨hHeld.out.alloc hHeld.out.size _⟩ (fun hHeld => ?_)
   clear hK K
   try simp only [pt]
   try rw [HGN.out]
   refine' cm 4 (fun K hK => ?_)
   go_simp
   have hE := Eval_calls (HLO.out.below (below_alloc (Below.refl _ _) _)) (HV.out.below hHeld.out) (HT.out.below hHeld.out)
   rw [hX.out] at hE
   refine hE.mono ?_
   clear hE
   rintro e wE ⟨rfl, bE⟩
   replace kN := blk_below kN bE
   refine hK.out _ _ ⟨hHeld.out.trans (bE.mono hHeld.out.size)⟩ (fun hHeld => ?_)
   clear hK K
   try simp only [pt]
   clear bE
   refine' tk 5 ?_
   try simp only [pt]
   refine' tk 6 ?_
   try simp only [pt]
   refine' tk 7 ?_
   try simp only [pt]
   have r0 := (blk_cell kN 0).trans rfl
   have r1 := (blk_cell kN 1).trans rfl
   have f0 := blk_frozen kN 0
   have f1 := blk_frozen kN 1
   have HK2 := Lib.hid (res_put (c := .int .i64 xr) (d := .int .i64 xn) kN)
   have HB2 := Lib.hid ((hHeld.out.setCell (p := ⟨gN, 0, none⟩) geN (.int .i64 xr)).setCell (p := ⟨gN, 1, none⟩) geN (.int .i64 xn))
   clear kN geN hHeld
   refine' cm 9 (fun K hK => ?_)
   go_simp
   refine hK.out _ _ ⟨HB2.out⟩ (fun hHeld => ?_)
   clear hK K
   try simp only [pt]
   refine' cm 10 (fun K hK => ?_)
   go_simp
   refine hK.out _ _ ⟨HB2.out⟩ (fun hHeld => ?_)
   clear hK K
   try simp only [pt]
   refine wpAnyH_done (by kernel_rfl) ?_ _
   exact hJ gN _ _ _ _ _ _ _ _ _ _ HK2.out HB2.out
 case kb =>
  go_simp
  have kN := blk_new wD (.cells #[.int .i64 0, .int .i64 0] 34)
  have geN := hHeld.out.size
  obtain ⟨gN, hgN⟩ : ∃ x, wD.heap.size = x := ⟨_, rfl⟩
  have HGN := Lib.hid hgN
  rw [hgN] at kN geN
  clear hgN
  refine hK.out _ _ ⟨hHeld.out.alloc hHeld.out.size _⟩ (fun hHeld => ?_)
  clear hK K
  try simp only [pt]
  try rw [HGN.out]
  refine' cm 2 (fun K hK => ?_)
  go_simp
  have BO0 := Lib.hid hHeld.out
  refine (of_calls 25 cA cB _).mono ?_
  rintro e wO ⟨⟨gO, rfl, hgO⟩, bO⟩
  have HLO := Lib.hid (of_lies (op := 25) (a := cA) (b := cB) hgO (by unfold R64; omega) (HLA.out.below (BO0.out.trans (bO.mono BO0.out.size))) (HLB.out.below (BO0.out.trans (bO.mono BO0.out.size))))
  replace kN := blk_below kN bO
  refine hK.out _ _ ⟨hHeld.out.trans (bO.mono hHeld.out.size)⟩ (fun hHeld => ?_)
  clear hK K
  try simp only [pt]
  clear hgO bO
  refine' cm 4 (fun K hK => ?_)
  go_simp
  have hE := Eval_calls (HLO.out) (HV.out.below hHeld.out) (HT.out.below hHeld.out)
  rw [hX.out] at hE
  refine hE.mono ?_
  clear hE
  rintro e wE ⟨rfl, bE⟩
  replace kN := blk_below kN bE
  refine hK.out _ _ ⟨hHeld.out.trans (bE.mono hHeld.out.size)⟩ (fun hHeld => ?_)
  clear hK K
  try simp only [pt]
  clear bE
  refine' tk 5 ?_
  try simp only [pt]
  refine' tk 6 ?_
  try simp only [pt]
  refine' tk 7 ?_
  try simp only [pt]
  have r0 := (blk_cell kN 0).trans rfl
  have r1 := (blk_cell kN 1).trans rfl
  have f0 := blk_frozen kN 0
  have f1 := blk_frozen kN 1
  have HK2 := Lib.hid (res_put (c := .int .i64 xr) (d := .int .i64 xn) kN)
  have HB2 := Lib.hid ((hHeld.out.setCell (p := ⟨gN, 0, none⟩) geN (.int .i64 xr)).setCell (p := ⟨gN, 1, none⟩) geN (.int .i64 xn))
  clear kN geN hHeld
  refine' cm 9 (fun K hK => ?_)
  go_simp
  refine hK.out _ _ ⟨HB2.out⟩ (fun hHeld => ?_)
  clear hK K
  try simp only [pt]
  refine' cm 10 (fun K hK => ?_)
  go_simp
  refine hK.out _ _ ⟨HB2.out⟩ (fun hHeld => ?_)
  clear hK K
  try simp only [pt]
  refine wpAnyH_done (by kernel_rfl) ?_ _
  exact hJ gN _ _ _ _ _ _ _ _ _ _ HK2.out HB2.out
theorem of_reg22 {J : Act → World → Prop} {Φ : Ending → World → Prop} {W : World} {v : En} {cA cB : Cr} {gA gB gE : Nat} {xr xn : Int} {dl : List Deferred} {u0 u1 u2 u3 u5 u6 u7 u8 u9 u10 u11 u12 u14 u15 u16 u17 u18 u19 u20 u21 u23 u24 u25 u26 u27 u28 u29 u30 u31 u32 u33 u34 u35 u36 u37 u38 u39 u40 u41 u42 u43 u44 u45 u46 u47 u48 u49 u50 u51 u52 u53 u54 u55 u56 u57 u58 u59 u60 u61 u62 u63 u64 u65 u66 u67 u68 u69 u70 u71 u72 u73 u74 u75 u76 u77 u78 u79 u80 u81 u82 u83 u84 u85 u86 u87 u88 u89 u90 u91 u92 u93 u94 u95 u96 u97 u98 u99 u100 u101 u102 u103 u104 u105 u106 u107 u108 u109 u110 u111 u112 u113 u114 u115 u116 u117 u118 u119 u120 u121 u122 u123 u124 u125 u126 u127 u128 u129 u130 u131 u132 u133 u134 u135 u136 u137 u138 u139 u140 u141 u142 u143 u144 u145 u146 u147 u148 u149 u150 u151 u152 u153 u154 u155 u156 u157 u158 u159 u160 u161 u162 u163 u164 u165 u166 u167 u168 u169 u170 u171 u172 u173 u174 u175 u176 u177 u178 u179 u180 u181 u182 u183 u184 u185 u186 u187 u188 u189 u190 u191 u192 u193 u194 : Value}
  (hV : EnvL W v) (hT : ErrT W) (hA : Lies W cA) (hB : Lies W cB)
  (hF : ∀ w', Below W.heap.size W w' → (w'.cell? ⟨gA, 0, none⟩ = some (.int .i64 cA.op) ∧ w'.cell? ⟨gA, 1, none⟩ = some (.int .i64 cA.n) ∧ w'.cell? ⟨gA, 2, none⟩ = some (.int .i64 cA.m) ∧ w'.cell? ⟨gA, 3, none⟩ = some (.slice cA.at_ cA.kids.length cA.cap)) ∧ (w'.cell? ⟨gB, 0, none⟩ = some (.int .i64 cB.op) ∧ w'.cell? ⟨gB, 1, none⟩ = some (.int .i64 cB.n) ∧ w'.cell? ⟨gB, 2, none⟩ = some (.int .i64 cB.m) ∧ w'.cell? ⟨gB, 3, none⟩ = some (.slice cB.at_ cB.kids.length cB.cap)) ∧ (w'.cell? ⟨gE, 0, none⟩ = some (.int .i64 v.rep) ∧ w'.cell? ⟨gE, 1, none⟩ = some (.slice v.wa v.wins.length v.wcap) ∧ w'.cell? ⟨gE, 2, none⟩ = some (.slice v.ca v.crons.length v.ccap)))
  (hX : ∀ (a : Option Addr) (k : Nat), EvalR v (.node 26 0 0 a k [cA, cB]) = (xr, xn, 0))
  (hJ : ∀ (gq : Nat) (q30 q167 q168 q169 q170 q171 q172 q173 q174 : Value) (wx : World), wx.heap[gq]? = some (.cells #[.int .i64 xr, .int .i64 xn] 34 (0, 0)) → Below W.heap.size W wx → J ⟨#[u0, u1, u2, u3, .pointer (some ⟨gE, 0, none⟩), u5, u6, u7, u8, u9, u10, u11, u12, .pointer (some ⟨gA, 0, none⟩), u14, u15, u16, u17, u18, u19, u20, u21, .pointer (some ⟨gB, 0, none⟩), u23, u24, u25, u26, u27, u28, .pointer (some ⟨gq, 0, none⟩), q30, u31, u32, u33, u34, u35, u36, u37, u38, u39, u40, u41, u42, u43, u44, u45, u46, u47, u48, u49, u50, u51, u52, u53, u54, u55, u56, u57, u58, u59, u60, u61, u62, u63, u64, u65, u66, u67, u68, u69, u70, u71, u72, u73, u74, u75, u76, u77, u78, u79, u80, u81, u82, u83, u84, u85, u86, u87, u88, u89, u90, u91, u92, u93, u94, u95, u96, u97, u98, u99, u100, u101, u102, u103, u104, u105, u106, u107, u108, u109, u110, u111, u112, u113, u114, u115, u116, u117, u118, u119, u120, u121, u122, u123, u124, u125, u126, u127, u128, u129, u130, u131, u132, u133, u134, u135, u136, u137, u138, u139, u140, u141, u142, u143, u144, u145, u146, u147, u148, u149, u150, u151, u152, u153, u154, u155, u156, u157, u158, u159, u160, u161, u162, u163, u164, u165, u166, q167, q168, q169, q170, q171, q172, q173, q174, u175, u176, u177, u178, u179, u180, u181, u182, u183, u184, u185, u186, u187, u188, u189, u190, u191, u192, u193, u194], dl⟩ wx) :
  (Code.region 22 #[{ dst := some 168, op := Go.Op.load 24 (Go.Operand.tmp 13), type := 24, pos := "law.go:100", after := #[], guard := none }, { dst := some 169, op := Go.Op.load 24 (Go.Operand.tmp 22), type := 24, pos := "law.go:100", after := #[], guard := none }, { dst := some 170, op := Go.Op.call { callee := Go.Callee.value (Go.Operand.func 10), args := #[Go.Operand.const (Go.Value.int Go.IntKind.i64 26), Go.Operand.tmp 168, Go.Operand.tmp 169], argTypes := #[3, 24, 24] }, type := 24, pos := "law.go:100", after := #[{ on := 0, ground := Go.Ground.data }, { on := 1, ground := Go.Ground.data }], guard := none }, { dst := some 171, op := Go.Op.load 28 (Go.Operand.tmp 4), type := 28, pos := "law.go:100", after := #[], guard := none }, { dst := some 172, op := Go.Op.call { callee := Go.Callee.value (Go.Operand.func 9), args := #[Go.Operand.tmp 170, Go.Operand.tmp 171], argTypes := #[24, 28] }, type := 36, pos := "law.go:100", after := #[{ on := 2, ground := Go.Ground.data }, { on := 3, ground := Go.Ground.data }, { on := 2, ground := Go.Ground.chain }], guard := none }, { dst := some 167, op := Go.Op.move (Go.Operand.tmp 172), type := 36, pos := "law.go:100", after := #[{ on := 4, ground := Go.Ground.data }], guard := none }, { dst := some 173, op := Go.Op.extract (Go.Operand.tmp 167) 0, type := 34, pos := "law.go:100", after := #[{ on := 5, ground := Go.Ground.data }], guard := none }, { dst := some 174, op := Go.Op.extract (Go.Operand.tmp 167) 1, type := 35, pos := "law.go:100", after := #[{ on := 5, ground := Go.Ground.data }, { on := 9, ground := Go.Ground.gcOnly Go.Departure.lateStores }], guard := none }, { dst := some 29, op := Go.Op.alloc 34, type := 0, pos := "law.go:100", after := #[], guard := none }, { dst := none, op := Go.Op.store 34 (Go.Operand.tmp 29) (Go.Operand.tmp 173), type := 0, pos := "law.go:100", after := #[{ on := 8, ground := Go.Ground.data }, { on := 6, ground := Go.Ground.data }, { on := 4, ground := Go.Ground.chain }, { on := 0, ground := Go.Ground.phase }, { on := 1, ground := Go.Ground.phase }, { on := 2, ground := Go.Ground.phase }, { on := 3, ground := Go.Ground.phase }, { on := 4, ground := Go.Ground.phase }, { on := 5, ground := Go.Ground.phase }, { on := 6, ground := Go.Ground.phase }, { on := 7, ground := Go.Ground.textOnly Go.Departure.lateStores }, { on := 8, ground := Go.Ground.phase }], guard := none }, { dst := some 30, op := Go.Op.assign (Go.Operand.tmp 174), type := 35, pos := "law.go:100", after := #[{ on := 7, ground := Go.Ground.data }, { on := 9, ground := Go.Ground.chain }, { on := 0, ground := Go.Ground.phase }, { on := 1, ground := Go.Ground.phase }, { on := 2, ground := Go.Ground.phase }, { on := 3, ground := Go.Ground.phase }, { on := 4, ground := Go.Ground.phase }, { on := 5, ground := Go.Ground.phase }, { on := 6, ground := Go.Ground.phase }, { on := 7, ground := Go.Ground.phase }, { on := 8, ground := Go.Ground.phase }, { on := 9, ground := Go.Ground.phase }], guard := none }] true).wp Tryd.prog (Exit.then J (bodyPost Tryd.prog Tryd.f3 Φ)) ⟨#[u0, u1, u2, u3, .pointer (some ⟨gE, 0, none⟩), u5, u6, u7, u8, u9, u10, u11, u12, .pointer (some ⟨gA, 0, none⟩), u14, u15, u16, u17, u18, u19, u20, u21, .pointer (some ⟨gB, 0, none⟩), u23, u24, u25, u26, u27, u28, u29, u30, u31, u32, u33, u34, u35, u36, u37, u38, u39, u40, u41, u42, u43, u44, u45, u46, u47, u48, u49, u50, u51, u52, u53, u54, u55, u56, u57, u58, u59, u60, u61, u62, u63, u64, u65, u66, u67, u68, u69, u70, u71, u72, u73, u74, u75, u76, u77, u78, u79, u80, u81, u82, u83, u84, u85, u86, u87, u88, u89, u90, u91, u92, u93, u94, u95, u96, u97, u98, u99, u100, u101, u102, u103, u104, u105, u106, u107, u108, u109, u110, u111, u112, u113, u114, u115, u116, u117, u118, u119, u120, u121, u122, u123, u124, u125, u126, u127, u128, u129, u130, u131, u132, u133, u134, u135, u136, u137, u138, u139, u140, u141, u142, u143, u144, u145, u146, u147, u148, u149, u150, u151, u152, u153, u154, u155, u156, u157, u158, u159, u160, u161, u162, u163, u164, u165, u166, u167, u168, u169, u170, u171, u172, u173, u174, u175, u176, u177, u178, u179, u180, u181, u182, u183, u184, u185, u186, u187, u188, u189, u190, u191, u192, u193, u194], dl⟩ W := by
 have HV := Lib.hid hV
 have HT := Lib.hid hT
 have HLA := Lib.hid hA
 have HLB := Lib.hid hB
 have HF := Lib.hid hF
 have hX := Lib.hid hX
 clear hV hT hA hB hF
 refine wp_region_held_drew (S := fun w' => Aside0 (Below W.heap.size W w')) (by kernel_rfl) ?_ (fun hHeld => ?_)
 ·exact ⟨(Below.refl _ _).drew⟩
 generalize World.drew _ = wD at hHeld ⊢
 have HCr := HF
 refine' tk 0 ?_
 try simp only [pt]
 refine' tk 1 ?_
 try simp only [pt]
 refine' tk 3 ?_
 try simp only [pt]
 refine' cm2 2 8 (fun K hK => ?ka) (fun K hK => ?kb)
 case ka =>
  go_simp
  have BO0 := Lib.hid hHeld.out
  refine (of_calls 26 cA cB _).mono ?_
  rintro e wO ⟨⟨gO, rfl, hgO⟩, bO⟩
  have HLO := Lib.hid (of_lies (op := 26) (a := cA) (b := cB) hgO (by unfold R64; omega) (HLA.out.below (BO0.out.trans (bO.mono BO0.out.size))) (HLB.out.below (BO0.out.trans (bO.mono BO0.out.size))))
  refine hK.out _ _ ⟨hHeld.out.trans (bO.mono hHeld.out.size)⟩ (fun hHeld => ?_)
  clear hK K
  try simp only [pt]
  clear hgO bO
  refine' cm2 4 8 (fun K hK => ?kc) (fun K hK => ?kd)
  case kc =>
   go_simp
   have hE := Eval_calls (HLO.out) (HV.out.below hHeld.out) (HT.out.below hHeld.out)
   rw [hX.out] at hE
   refine hE.mono ?_
   clear hE
   rintro e wE ⟨rfl, bE⟩
   refine hK.out _ _ ⟨hHeld.out.trans (bE.mono hHeld.out.size)⟩ (fun hHeld => ?_)
   clear hK K
   try simp only [pt]
   clear bE
   refine' tk 5 ?_
   try simp only [pt]
   refine' tk 6 ?_
   try simp only [pt]
   refine' tk 7 ?_
   try simp only [pt]
   refine' cm 8 (fun K hK => ?_)
   go_simp
   have kN := blk_new wE (.cells #[.int .i64 0, .int .i64 0] 34)
   have geN := hHeld.out.size
   obtain ⟨gN, hgN⟩ : ∃ x, wE.heap.size = x := ⟨_, rfl⟩
   have HGN := Lib.hid hgN
   rw [hgN] at kN geN
   clear hgN
   refine hK.out _ _ ⟨hHeld.out.alloc hHeld.out.size _⟩ (fun hHeld => ?_)
   clear hK K
   try simp only [pt]
   try rw [HGN.out]
   generalize World.alloc wE _ = wT at kN hHeld ⊢
   have r0 := (blk_cell kN 0).trans rfl
   have r1 := (blk_cell kN 1).trans rfl
   have f0 := blk_frozen kN 0
   have f1 := blk_frozen kN 1
   have HK2 := Lib.hid (res_put (c := .int .i64 xr) (d := .int .i64 xn) kN)
   have HB2 := Lib.hid ((hHeld.out.setCell (p := ⟨gN, 0, none⟩) geN (.int .i64 xr)).setCell (p := ⟨gN, 1, none⟩) geN (.int .i64 xn))
   clear kN geN hHeld
   refine' cm 9 (fun K hK => ?_)
   go_simp
   refine hK.out _ _ ⟨HB2.out⟩ (fun hHeld => ?_)
   clear hK K
   try simp only [pt]
   refine' cm 10 (fun K hK => ?_)
   go_simp
   refine hK.out _ _ ⟨HB2.out⟩ (fun hHeld => ?_)
   clear hK K
   try simp only [pt]
   refine wpAnyH_done (by kernel_rfl) ?_ _
   exact hJ gN _ _ _ _ _ _ _ _ _ _ HK2.out HB2.out
  case kd =>
   go_simp
   have kN := blk_new wO (.cells #[.int .i64 0, .int .i64 0] 34)
   have geN := hHeld.out.size
   obtain ⟨gN, hgN⟩ : ∃ x, wO.heap.size = x := ⟨_, rfl⟩
   have HGN := Lib.hid hgN
   rw [hgN] at kN geN
   clear hgN
   refine hK.out _ _ ⟨hHeld.out.alloc hHeld.out.size _⟩ (fun hHeld => ?_)
   clear hK K
   try simp only [pt]
   try rw [HGN.out]
   refine' cm 4 (fun K hK => ?_)
   go_simp
   have hE := Eval_calls (HLO.out.below (below_alloc (Below.refl _ _) _)) (HV.out.below hHeld.out) (HT.out.below hHeld.out)
   rw [hX.out] at hE
   refine hE.mono ?_
   clear hE
   rintro e wE ⟨rfl, bE⟩
   replace kN := blk_below kN bE
   refine hK.out _ _ ⟨hHeld.out.trans (bE.mono hHeld.out.size)⟩ (fun hHeld => ?_)
   clear hK K
   try simp only [pt]
   clear bE
   refine' tk 5 ?_
   try simp only [pt]
   refine' tk 6 ?_
   try simp only [pt]
   refine' tk 7 ?_
   try simp only [pt]
   have r0 := (blk_cell kN 0).trans rfl
   have r1 := (blk_cell kN 1).trans rfl
   have f0 := blk_frozen kN 0
   have f1 := blk_frozen kN 1
   have HK2 := Lib.hid (res_put (c := .int .i64 xr) (d := .int .i64 xn) kN)
   have HB2 := Lib.hid ((hHeld.out.setCell (p := ⟨gN, 0, none⟩) geN (.int .i64 xr)).setCell (p := ⟨gN, 1, none⟩) geN (.int .i64 xn))
   clear kN geN hHeld
   refine' cm 9 (fun K hK => ?_)
   go_simp
   refine hK.out _ _ ⟨HB2.out⟩ (fun hHeld => ?_)
   clear hK K
   try simp only [pt]
   refine' cm 10 (fun K hK => ?_)
   go_simp
   refine hK.out _ _ ⟨HB2.out⟩ (fun hHeld => ?_)
   clear hK K
   try simp only [pt]
   refine wpAnyH_done (by kernel_rfl) ?_ _
   exact hJ gN _ _ _ _ _ _ _ _ _ _ HK2.out HB2.out
 case kb =>
  go_simp
  have kN := blk_new wD (.cells #[.int .i64 0, .int .i64 0] 34)
  have geN := hHeld.out.size
  obtain ⟨gN, hgN⟩ : ∃ x, wD.heap.size = x := ⟨_, rfl⟩
  have HGN := Lib.hid hgN
  rw [hgN] at kN geN
  clear hgN
  refine hK.out _ _ ⟨hHeld.out.alloc hHeld.out.size _⟩ (fun hHeld => ?_)
  clear hK K
  try simp only [pt]
  try rw [HGN.out]
  refine' cm 2 (fun K hK => ?_)
  go_simp
  have BO0 := Lib.hid hHeld.out
  refine (of_calls 26 cA cB _).mono ?_
  rintro e wO ⟨⟨gO, rfl, hgO⟩, bO⟩
  have HLO := Lib.hid (of_lies (op := 26) (a := cA) (b := cB) hgO (by unfold R64; omega) (HLA.out.below (BO0.out.trans (bO.mono BO0.out.size))) (HLB.out.below (BO0.out.trans (bO.mono BO0.out.size))))
  replace kN := blk_below kN bO
  refine hK.out _ _ ⟨hHeld.out.trans (bO.mono hHeld.out.size)⟩ (fun hHeld => ?_)
  clear hK K
  try simp only [pt]
  clear hgO bO
  refine' cm 4 (fun K hK => ?_)
  go_simp
  have hE := Eval_calls (HLO.out) (HV.out.below hHeld.out) (HT.out.below hHeld.out)
  rw [hX.out] at hE
  refine hE.mono ?_
  clear hE
  rintro e wE ⟨rfl, bE⟩
  replace kN := blk_below kN bE
  refine hK.out _ _ ⟨hHeld.out.trans (bE.mono hHeld.out.size)⟩ (fun hHeld => ?_)
  clear hK K
  try simp only [pt]
  clear bE
  refine' tk 5 ?_
  try simp only [pt]
  refine' tk 6 ?_
  try simp only [pt]
  refine' tk 7 ?_
  try simp only [pt]
  have r0 := (blk_cell kN 0).trans rfl
  have r1 := (blk_cell kN 1).trans rfl
  have f0 := blk_frozen kN 0
  have f1 := blk_frozen kN 1
  have HK2 := Lib.hid (res_put (c := .int .i64 xr) (d := .int .i64 xn) kN)
  have HB2 := Lib.hid ((hHeld.out.setCell (p := ⟨gN, 0, none⟩) geN (.int .i64 xr)).setCell (p := ⟨gN, 1, none⟩) geN (.int .i64 xn))
  clear kN geN hHeld
  refine' cm 9 (fun K hK => ?_)
  go_simp
  refine hK.out _ _ ⟨HB2.out⟩ (fun hHeld => ?_)
  clear hK K
  try simp only [pt]
  refine' cm 10 (fun K hK => ?_)
  go_simp
  refine hK.out _ _ ⟨HB2.out⟩ (fun hHeld => ?_)
  clear hK K
  try simp only [pt]
  refine wpAnyH_done (by kernel_rfl) ?_ _
  exact hJ gN _ _ _ _ _ _ _ _ _ _ HK2.out HB2.out
end Go.Proofs.YtpljkcakijkklaaDoor

end
section
namespace Go.Proofs.YtpljkcakijkklaaDoor
set_option linter.unusedVariables false
set_option linter.unusedSimpArgs false
open Go.RowKit Go.Proofs.YtpljkcakijkklaaDoorW.PrintWords Go.Proofs.YtpljkcakijkklaaDoorW.PrintLast Go.Proofs.YtpljkcakijkklaaDoorW.PrintMore

theorem CoreLazy_lies {c : Cr} {v : En} {why : Int} {w : World} (hl : Lies w c) (hv : EnvL w v) (ht : ErrT w) (hy : 0 ≤ why ∧ why ≤ 255) :
  Calls Tryd.prog 3 #[.agg #[.int .i64 c.op, .int .i64 c.n, .int .i64 c.m, .slice c.at_ c.kids.length c.cap], .agg #[.int .i64 v.rep, .slice v.wa v.wins.length v.wcap, .slice v.ca v.crons.length v.ccap], .int .u8 why] w fun e w' => e = .returned (.bool true) ∧ Below w.heap.size w w' := by
 obtain ⟨w1, e1, b1, k1, k2, s1⟩ := box2 w (.cells #[.int .i64 c.op, .int .i64 c.n, .int .i64 c.m, .slice c.at_ c.kids.length c.cap] 24) (.cells #[.int .i64 v.rep, .slice v.wa v.wins.length v.wcap, .slice v.ca v.crons.length v.ccap] 28)
 have HE := Lib.hid e1
 have B1 := Lib.hid b1
 have HL := Lib.hid (hl.below b1)
 have HV := Lib.hid (hv.below b1)
 have HT := Lib.hid (ht.below b1)
 obtain ⟨g, hg⟩ : ∃ g, w.heap.size = g := ⟨_, rfl⟩
 have HG := Lib.hid hg
 have HC := Lib.hid fun (w' : World) (hb : Below w1.heap.size w1 w') => (show _ ∧ _ from ⟨core_cells (blk_below k1 hb), env_cells (blk_below k2 hb)⟩)
 rw [hg] at HC
 obtain ⟨sa, hsa⟩ : ∃ x, decide (c.total ≤ 4096) = x := ⟨_, rfl⟩
 have HSA := Lib.hid hsa
 obtain ⟨r, hr⟩ : ∃ r : Int, 1 + why % 3 = r := ⟨_, rfl⟩
 have HRR := Lib.hid (show 1 ≤ r ∧ r ≤ 3 by omega)
 have r1 : why.tmod 3 = r - 1 := by rw [Int.tmod_eq_emod_of_nonneg hy.1]; omega
 have r2 : IntKind.u8.wrap (r - 1) = r - 1 := by rw [IntKind.wrap_u8]; omega
 have r3 : IntKind.u8.wrap (1 + (r - 1)) = r := by rw [IntKind.wrap_u8]; omega
 have r4 : IntKind.i64.wrap r = r := by rw [IntKind.wrap_i64]; omega
 clear hl hv ht k1 k2 e1 b1 s1 hsa hg hy hr
 go_enter Tryd.func3, Tryd.ntmps3
 go_wp2_with fail
 rw [HE.out]
 try rw [HG.out]
 refine (awake15 w1 HT.out).mono ?_
 rintro e w2 ⟨rfl, b2⟩
 have B2 := Lib.hid b2
 obtain ⟨⟨y0, y1, y2, y3⟩, ⟨x0, x1, x2⟩⟩ := HC.out w2 b2
 clear b2
 go_wp2_with fail
 refine (small_calls (HL.out.below B2.out) HSA.out).mono ?_
 rintro e w3 ⟨rfl, b3⟩
 have B3 := Lib.hid (B2.out.trans (b3.mono B2.out.size))
 clear b3 y0 y1 y2 y3 x0 x1 x2
 cases sa with
 | false =>
  go_wp2_with fail
  refine (awake15 w3 (HT.out.below B3.out)).mono ?_
  rintro e w4 ⟨rfl, b4⟩
  go_wp2_with fail
  go_ret
  exact ⟨rfl, B1.out.trans ((B3.out.trans (b4.mono B3.out.size)).mono B1.out.size)⟩
 | true =>
  obtain ⟨⟨y0, y1, y2, y3⟩, ⟨x0, x1, x2⟩⟩ := HC.out w3 B3.out
  obtain ⟨s, hs⟩ : ∃ s, sortS v.wins.length v.crons.length 256 c = s := ⟨_, rfl⟩
  have hsc := Sort_calls (rw := v.wins.length) (rc := v.crons.length) (rl := 256) (HL.out.below B3.out)
  rw [hs] at hsc
  have HSC := Lib.hid hsc
  have HS := Lib.hid hs
  clear hsc hs
  go_wp2_with fail
  refine HSC.out.mono ?_
  rintro e w4 ⟨rfl, b4⟩
  have B4 := Lib.hid (B3.out.trans (b4.mono B3.out.size))
  clear b4 y0 y1 y2 y3 x0 x1 x2 HSC
  by_cases h12 : s = 1 ∨ s = 2
  case neg =>
   have n1 : (s != 1) = true := by simpa using fun h => h12 (.inl h)
   have n2 : (s != 2) = true := by simpa using fun h => h12 (.inr h)
   clear h12
   go_wp2_with fail
   go_ret
   exact ⟨rfl, B1.out.trans (B4.out.mono B1.out.size)⟩
  have H12 := Lib.hid h12
  obtain ⟨⟨xr, xn, xe⟩, hX⟩ : ∃ X, EvalR v c = X := ⟨_, rfl⟩
  have hEv := Eval_calls (HL.out.below B4.out) (HV.out.below B4.out) (HT.out.below B4.out)
  rw [hX] at hEv
  have hxe : xe = 0 := lazy_err (by rw [HS.out]; exact h12) hX
  subst hxe
  have HEv := Lib.hid hEv
  have HX := Lib.hid hX
  obtain ⟨⟨y0, y1, y2, y3⟩, ⟨x0, x1, x2⟩⟩ := HC.out w4 B4.out
  clear hX hEv
  have hbr : (s != 1) = false ∨ (s != 1) = true ∧ (s != 2) = false := by
   rcases h12 with rfl | rfl
   ·exact .inl rfl
   ·exact .inr ⟨rfl, rfl⟩
  obtain ⟨bs, hbs⟩ : ∃ b, (s != 1) = b := ⟨_, rfl⟩
  rw [hbs] at hbr
  have n2 : bs = true → (s != 2) = false := by
   rcases hbr with h | h
   ·intro h'; rw [h] at h'; cases h'
   ·exact fun _ => h.2
  have HN2 := Lib.hid n2
  clear n2 hbr h12
  have key : ∀ t : Bool, (if bs = true then (s != 2) else false) = t → t = false := fun t ht => by
   cases bs with
   | false => exact ht.symm
   | true => rw [← ht]; exact HN2.out rfl
  have Bw4 := B4
  have HFw4 := Lib.hid fun (w' : World) (hb : Below w4.heap.size w4 w') => HC.out w' (B4.out.trans (hb.mono B4.out.size))
  go_upto_region 4 with fail
  go_cut [53] from 32 (fun s53 wx => s53 = .bool false ∧ w4 = wx)
  case first =>
   cases bs with
   | false =>
    go_wp2_with fail
    go_meet
    exact ⟨by first | rfl | simp, rfl⟩
   | true =>
    have n3 := HN2.out rfl
    go_wp2_with fail
    go_meet
    exact ⟨by first | rfl | simp, rfl⟩
  case rest =>
   obtain ⟨rfl, rfl⟩ := hcut
   go_wp2_with fail
   refine HEv.out.mono ?_
   rintro e w5 ⟨rfl, bq⟩
   have Bw5 := Lib.hid (Bw4.out.trans (bq.mono Bw4.out.size))
   have HFw5 := Lib.hid fun (w' : World) (hb : Below w5.heap.size w5 w') => HFw4.out w' (bq.trans (hb.mono bq.size))
   clear bq HFw4
   obtain ⟨⟨y0, y1, y2, y3⟩, ⟨x0, x1, x2⟩⟩ := HFw5.out w5 (Below.refl _ _)
   clear HEv
   go_upto_region 10 with fail
   obtain ⟨w6, ew6, bw6, kw60, sw6⟩ := box1 w5 (.cells #[.int .i64 xr, .int .i64 xn] 34)
   have HEw6 := Lib.hid ew6
   rw [HEw6.out]
   obtain ⟨gx, hgw6⟩ : ∃ g, w5.heap.size = g := ⟨_, rfl⟩
   have HGw6 := Lib.hid hgw6
   try rw [HGw6.out]
   rw [hgw6] at kw60
   have Bw6 := Lib.hid (Bw5.out.trans (bw6.mono Bw5.out.size))
   have HFw6 := Lib.hid fun (w' : World) (hb : Below w6.heap.size w6 w') => (show _ ∧ _ from ⟨HFw5.out w' (bw6.trans (hb.mono bw6.size)), res_at (blk_below kw60 hb)⟩)
   clear ew6 bw6 kw60 sw6 hgw6 HFw5
   try clear y0 y1 y2 y3 x0 x1 x2
   obtain ⟨⟨⟨y0, y1, y2, y3⟩, ⟨x0, x1, x2⟩⟩, ⟨gx0, gx1⟩⟩ := HFw6.out w6 (Below.refl _ _)
   go_upto_region 11 with fail
   obtain ⟨w7, ew7, bw7, kw70, sw7⟩ := box1 w6 (.cells #[.int .i64 6, .int .i64 r, .int .i64 s, .slice none 0 0] 24)
   have HEw7 := Lib.hid ew7
   rw [HEw7.out]
   obtain ⟨gb, hgw7⟩ : ∃ g, w6.heap.size = g := ⟨_, rfl⟩
   have HGw7 := Lib.hid hgw7
   try rw [HGw7.out]
   rw [hgw7] at kw70
   have Bw7 := Lib.hid (Bw6.out.trans (bw7.mono Bw6.out.size))
   have HFw7 := Lib.hid fun (w' : World) (hb : Below w7.heap.size w7 w') => (show _ ∧ _ from ⟨HFw6.out w' (bw7.trans (hb.mono bw7.size)), core_cells (blk_below kw70 hb)⟩)
   clear ew7 bw7 kw70 sw7 hgw7 HFw6
   try clear y0 y1 y2 y3 x0 x1 x2 gx0 gx1
   obtain ⟨⟨⟨⟨y0, y1, y2, y3⟩, ⟨x0, x1, x2⟩⟩, ⟨gx0, gx1⟩⟩, ⟨gb0, gb1, gb2, gb3⟩⟩ := HFw7.out w7 (Below.refl _ _)
   go_upto_region 12 with fail
   obtain ⟨w8, ew8, bw8, kw80, kw81, sw8⟩ := box2 w7 (.cells #[.int .i64 2, .int .i64 1, .int .i64 0, .slice none 0 0] 24) (.cells #[.int .i64 2, .int .i64 0, .int .i64 0, .slice none 0 0] 24)
   have HEw8 := Lib.hid ew8
   rw [HEw8.out]
   obtain ⟨gy, hgw8⟩ : ∃ g, w7.heap.size = g := ⟨_, rfl⟩
   have HGw8 := Lib.hid hgw8
   try rw [HGw8.out]
   rw [hgw8] at kw80
   rw [hgw8] at kw81
   have Bw8 := Lib.hid (Bw7.out.trans (bw8.mono Bw7.out.size))
   have HFw8 := Lib.hid fun (w' : World) (hb : Below w8.heap.size w8 w') => (show _ ∧ _ ∧ _ from ⟨HFw7.out w' (bw8.trans (hb.mono bw8.size)), core_cells (blk_below kw80 hb), core_cells (blk_below kw81 hb)⟩)
   clear ew8 bw8 kw80 kw81 sw8 hgw8 HFw7
   try clear y0 y1 y2 y3 x0 x1 x2 gx0 gx1 gb0 gb1 gb2 gb3
   obtain ⟨⟨⟨⟨⟨y0, y1, y2, y3⟩, ⟨x0, x1, x2⟩⟩, ⟨gx0, gx1⟩⟩, ⟨gb0, gb1, gb2, gb3⟩⟩, ⟨gy0, gy1, gy2, gy3⟩, ⟨gn0, gn1, gn2, gn3⟩⟩ := HFw8.out w8 (Below.refl _ _)
   have lt1 : g + 1 < w8.heap.size := World.block_lt_of_cell? w8 _ x0
   have ne1 : g + 1 ≠ w8.heap.size := by omega
   go_wp2_with fail
   clear lt1 ne1
   obtain ⟨w9, ew9, bw9, kw90, sw9⟩ := box1 w8 (.cells #[.int .i64 2, .int .i64 1, .int .i64 0, .slice none 0 0, .int .i64 c.op, .int .i64 c.n, .int .i64 c.m, .slice c.at_ c.kids.length c.cap, .int .i64 6, .int .i64 r, .int .i64 s, .slice none 0 0] 24)
   have HEw9 := Lib.hid ew9
   rw [HEw9.out]
   obtain ⟨gsw9, hgw9⟩ : ∃ g, w8.heap.size = g := ⟨_, rfl⟩
   have HGw9 := Lib.hid hgw9
   try rw [HGw9.out]
   rw [hgw9] at kw90
   have Bw9 := Lib.hid (Bw8.out.trans (bw9.mono Bw8.out.size))
   have HFw9 := Lib.hid fun (w' : World) (hb : Below w9.heap.size w9 w') => (show _ ∧ _ from ⟨HFw8.out w' (bw9.trans (hb.mono bw9.size)), blk_below kw90 hb⟩)
   clear ew9 bw9  sw9 hgw9 HFw8
   have hE := Eval_calls (three_lies (op := 28) (a := boolC 1) (b := c) (d := failC r s) kw90 (by unfold R64; omega) (bool_lies (.inr rfl) w9) (HL.out.below Bw9.out) (fail_lies HRR.out H12.out w9)) (HV.out.below Bw9.out) (HT.out.below Bw9.out)
   rw [lazy_if1 HS.out H12.out HRR.out, HX.out] at hE
   clear kw90
   refine hE.mono ?_
   clear hE
   rintro e wA ⟨rfl, bq⟩
   have BwA := Lib.hid (Bw9.out.trans (bq.mono Bw9.out.size))
   have HFwA := Lib.hid fun (w' : World) (hb : Below wA.heap.size wA w') => HFw9.out w' (bq.trans (hb.mono bq.size))
   clear bq HFw9
   try clear y0 y1 y2 y3 x0 x1 x2 gx0 gx1 gb0 gb1 gb2 gb3 gy0 gy1 gy2 gy3 gn0 gn1 gn2 gn3
   obtain ⟨⟨⟨⟨⟨⟨y0, y1, y2, y3⟩, ⟨x0, x1, x2⟩⟩, ⟨gx0, gx1⟩⟩, ⟨gb0, gb1, gb2, gb3⟩⟩, ⟨gy0, gy1, gy2, gy3⟩, ⟨gn0, gn1, gn2, gn3⟩⟩, -⟩ := HFwA.out wA (Below.refl _ _)
   go_upto_region 13 with fail
   obtain ⟨wB, ewB, bwB, kwB0, swB⟩ := box1 wA (.cells #[.int .i64 xr, .int .i64 xn] 34)
   have HEwB := Lib.hid ewB
   rw [HEwB.out]
   obtain ⟨ga, hgwB⟩ : ∃ g, wA.heap.size = g := ⟨_, rfl⟩
   have HGwB := Lib.hid hgwB
   try rw [HGwB.out]
   rw [hgwB] at kwB0
   have BwB := Lib.hid (BwA.out.trans (bwB.mono BwA.out.size))
   have HFwB := Lib.hid fun (w' : World) (hb : Below wB.heap.size wB w') => (show _ ∧ _ from ⟨HFwA.out w' (bwB.trans (hb.mono bwB.size)), res_at (blk_below kwB0 hb)⟩)
   clear ewB bwB kwB0 swB hgwB HFwA
   try clear y0 y1 y2 y3 x0 x1 x2 gx0 gx1 gb0 gb1 gb2 gb3 gy0 gy1 gy2 gy3 gn0 gn1 gn2 gn3
   obtain ⟨⟨⟨⟨⟨⟨⟨y0, y1, y2, y3⟩, ⟨x0, x1, x2⟩⟩, ⟨gx0, gx1⟩⟩, ⟨gb0, gb1, gb2, gb3⟩⟩, ⟨gy0, gy1, gy2, gy3⟩, ⟨gn0, gn1, gn2, gn3⟩⟩, -⟩, ⟨ga0, ga1⟩⟩ := HFwB.out wB (Below.refl _ _)
   have lt1 : g + 1 < wB.heap.size := World.block_lt_of_cell? wB _ x0
   have ne1 : g + 1 ≠ wB.heap.size := by omega
   go_wp2_with fail
   clear lt1 ne1
   obtain ⟨wC, ewC, bwC, kwC0, swC⟩ := box1 wB (.cells #[.int .i64 2, .int .i64 0, .int .i64 0, .slice none 0 0, .int .i64 6, .int .i64 r, .int .i64 s, .slice none 0 0, .int .i64 c.op, .int .i64 c.n, .int .i64 c.m, .slice c.at_ c.kids.length c.cap] 24)
   have HEwC := Lib.hid ewC
   rw [HEwC.out]
   obtain ⟨gswC, hgwC⟩ : ∃ g, wB.heap.size = g := ⟨_, rfl⟩
   have HGwC := Lib.hid hgwC
   try rw [HGwC.out]
   rw [hgwC] at kwC0
   have BwC := Lib.hid (BwB.out.trans (bwC.mono BwB.out.size))
   have HFwC := Lib.hid fun (w' : World) (hb : Below wC.heap.size wC w') => (show _ ∧ _ from ⟨HFwB.out w' (bwC.trans (hb.mono bwC.size)), blk_below kwC0 hb⟩)
   clear ewC bwC  swC hgwC HFwB
   have hE := Eval_calls (three_lies (op := 28) (a := boolC 0) (b := failC r s) (d := c) kwC0 (by unfold R64; omega) (bool_lies (.inl rfl) wC) (fail_lies HRR.out H12.out wC) (HL.out.below BwC.out)) (HV.out.below BwC.out) (HT.out.below BwC.out)
   rw [lazy_if0 HS.out H12.out HRR.out, HX.out] at hE
   clear kwC0
   refine hE.mono ?_
   clear hE
   rintro e wD ⟨rfl, bq⟩
   have BwD := Lib.hid (BwC.out.trans (bq.mono BwC.out.size))
   have HFwD := Lib.hid fun (w' : World) (hb : Below wD.heap.size wD w') => HFwC.out w' (bq.trans (hb.mono bq.size))
   clear bq HFwC
   try clear y0 y1 y2 y3 x0 x1 x2 gx0 gx1 gb0 gb1 gb2 gb3 gy0 gy1 gy2 gy3 gn0 gn1 gn2 gn3 ga0 ga1
   obtain ⟨⟨⟨⟨⟨⟨⟨⟨y0, y1, y2, y3⟩, ⟨x0, x1, x2⟩⟩, ⟨gx0, gx1⟩⟩, ⟨gb0, gb1, gb2, gb3⟩⟩, ⟨gy0, gy1, gy2, gy3⟩, ⟨gn0, gn1, gn2, gn3⟩⟩, -⟩, ⟨ga0, ga1⟩⟩, -⟩ := HFwD.out wD (Below.refl _ _)
   go_upto_region 14 with fail
   obtain ⟨wE, ewE, bwE, kwE0, swE⟩ := box1 wD (.cells #[.int .i64 xr, .int .i64 xn] 34)
   have HEwE := Lib.hid ewE
   rw [HEwE.out]
   obtain ⟨gc, hgwE⟩ : ∃ g, wD.heap.size = g := ⟨_, rfl⟩
   have HGwE := Lib.hid hgwE
   try rw [HGwE.out]
   rw [hgwE] at kwE0
   have BwE := Lib.hid (BwD.out.trans (bwE.mono BwD.out.size))
   have HFwE := Lib.hid fun (w' : World) (hb : Below wE.heap.size wE w') => (show _ ∧ _ from ⟨HFwD.out w' (bwE.trans (hb.mono bwE.size)), res_at (blk_below kwE0 hb)⟩)
   clear ewE bwE kwE0 swE hgwE HFwD
   go_cut [18] from 32 (fun s18 wx => ∃ gq : Nat, s18 = .pointer (some ⟨gq, 0, none⟩) ∧ wx.heap[gq]? = some (.cells #[.int .i64 xr, .int .i64 xn] 34 (0, 0)) ∧ Below wE.heap.size wE wx)
   case first =>
    refine of_reg14 (v := v) (cA := failC r s) (cB := c) (xr := xr) (xn := xn) (HV.out.below BwE.out) (HT.out.below BwE.out) (fail_lies HRR.out H12.out wE) (HL.out.below BwE.out) (fun w' hb => ?hf14) (fun a k => ?hx14) ?hj14
    case hf14 =>
     obtain ⟨⟨⟨⟨⟨⟨⟨⟨⟨y0, y1, y2, y3⟩, ⟨x0, x1, x2⟩⟩, ⟨gx0, gx1⟩⟩, ⟨gb0, gb1, gb2, gb3⟩⟩, ⟨gy0, gy1, gy2, gy3⟩, ⟨gn0, gn1, gn2, gn3⟩⟩, -⟩, ⟨ga0, ga1⟩⟩, -⟩, ⟨gc0, gc1⟩⟩ := HFwE.out w' hb
     exact ⟨⟨gb0, gb1, gb2, gb3⟩, ⟨y0, y1, y2, y3⟩, ⟨x0, x1, x2⟩⟩
    case hx14 => rw [lazy_either HS.out H12.out HRR.out, HX.out]
    case hj14 =>
     intro gq q0 q1 q2 q3 q4 q5 q6 q7 q8 wx kq bq
     go_wp2_with fail
     go_meet
     exact ⟨gq, rfl, kq, bq⟩
   case rest =>
    obtain ⟨gd, rfl, kwF, bwF⟩ := hcut
    generalize wc = wF at kwF bwF ⊢
    have BwF := Lib.hid (BwE.out.trans (bwF.mono BwE.out.size))
    have HFwF := Lib.hid fun (w' : World) (hb : Below wF.heap.size wF w') => (show _ ∧ _ from ⟨HFwE.out w' (bwF.trans (hb.mono bwF.size)), res_at (blk_below kwF hb)⟩)
    clear bwF kwF HFwE
    try clear y0 y1 y2 y3 x0 x1 x2 gx0 gx1 gb0 gb1 gb2 gb3 gy0 gy1 gy2 gy3 gn0 gn1 gn2 gn3 ga0 ga1
    obtain ⟨⟨⟨⟨⟨⟨⟨⟨⟨⟨y0, y1, y2, y3⟩, ⟨x0, x1, x2⟩⟩, ⟨gx0, gx1⟩⟩, ⟨gb0, gb1, gb2, gb3⟩⟩, ⟨gy0, gy1, gy2, gy3⟩, ⟨gn0, gn1, gn2, gn3⟩⟩, -⟩, ⟨ga0, ga1⟩⟩, -⟩, ⟨gc0, gc1⟩⟩, ⟨gd0, gd1⟩⟩ := HFwF.out wF (Below.refl _ _)
    obtain ⟨fr, hfr⟩ : ∃ x, (if xr = 0 then xr else r) = x := ⟨_, rfl⟩
    obtain ⟨fn, hfn⟩ : ∃ x, (if xr = 0 then xn else 0) = x := ⟨_, rfl⟩
    have HF2 : Hid (∀ a k, EvalR v (.node 27 0 0 a k [c, failC r s]) = (fr, fn, 0)) := Lib.hid fun a k => by
     rw [lazy_either2 HS.out H12.out HRR.out HX.out (fun q hq => by
      have := (eval_good v c w1 HL.out HV.out s HS.out H12.out).1
      rw [hq] at this
      exact this.2), ← hfr, ← hfn]
     by_cases h0 : xr = 0
     ·rw [if_pos h0, if_pos h0, if_pos h0]
     ·rw [if_neg h0, if_neg h0, if_neg h0]
    have HFR := Lib.hid hfr
    have HFN := Lib.hid hfn
    clear hfr hfn
    go_upto_region 15 with fail
    go_cut [20] from 32 (fun s20 wx => ∃ gq : Nat, s20 = .pointer (some ⟨gq, 0, none⟩) ∧ wx.heap[gq]? = some (.cells #[.int .i64 fr, .int .i64 fn] 34 (0, 0)) ∧ Below wF.heap.size wF wx)
    case first =>
     refine of_reg15 (v := v) (cA := c) (cB := failC r s) (xr := fr) (xn := fn) (HV.out.below BwF.out) (HT.out.below BwF.out) (HL.out.below BwF.out) (fail_lies HRR.out H12.out wF) (fun w' hb => ?hf15) (fun a k => ?hx15) ?hj15
     case hf15 =>
      obtain ⟨⟨⟨⟨⟨⟨⟨⟨⟨⟨y0, y1, y2, y3⟩, ⟨x0, x1, x2⟩⟩, ⟨gx0, gx1⟩⟩, ⟨gb0, gb1, gb2, gb3⟩⟩, ⟨gy0, gy1, gy2, gy3⟩, ⟨gn0, gn1, gn2, gn3⟩⟩, -⟩, ⟨ga0, ga1⟩⟩, -⟩, ⟨gc0, gc1⟩⟩, ⟨gd0, gd1⟩⟩ := HFwF.out w' hb
      exact ⟨⟨y0, y1, y2, y3⟩, ⟨gb0, gb1, gb2, gb3⟩, ⟨x0, x1, x2⟩⟩
     case hx15 => rw [HF2.out]
     case hj15 =>
      intro gq q0 q1 q2 q3 q4 q5 q6 q7 q8 wx kq bq
      go_wp2_with fail
      go_meet
      exact ⟨gq, rfl, kq, bq⟩
    case rest =>
     obtain ⟨gf, rfl, kwG, bwG⟩ := hcut
     generalize wc = wG at kwG bwG ⊢
     have BwG := Lib.hid (BwF.out.trans (bwG.mono BwF.out.size))
     have HFwG := Lib.hid fun (w' : World) (hb : Below wG.heap.size wG w') => (show _ ∧ _ from ⟨HFwF.out w' (bwG.trans (hb.mono bwG.size)), res_at (blk_below kwG hb)⟩)
     clear bwG kwG HFwF
     try clear y0 y1 y2 y3 x0 x1 x2 gx0 gx1 gb0 gb1 gb2 gb3 gy0 gy1 gy2 gy3 gn0 gn1 gn2 gn3 ga0 ga1 gc0 gc1 gd0 gd1
     obtain ⟨⟨⟨⟨⟨⟨⟨⟨⟨⟨⟨y0, y1, y2, y3⟩, ⟨x0, x1, x2⟩⟩, ⟨gx0, gx1⟩⟩, ⟨gb0, gb1, gb2, gb3⟩⟩, ⟨gy0, gy1, gy2, gy3⟩, ⟨gn0, gn1, gn2, gn3⟩⟩, -⟩, ⟨ga0, ga1⟩⟩, -⟩, ⟨gc0, gc1⟩⟩, ⟨gd0, gd1⟩⟩, ⟨gf0, gf1⟩⟩ := HFwG.out wG (Below.refl _ _)
     go_upto_region 16 with fail
     go_cut [140] from 32 (fun s140 wx => s140 = .bool false ∧ wG = wx)
     case first =>
      by_cases h0 : xr = 0
      ·have e1 : fr = xr := by rw [← HFR.out, if_pos h0]
       have e2 : fn = xn := by rw [← HFN.out, if_pos h0]
       subst e1 e2
       subst h0
       go_wp2_with fail
       all_goals (go_meet; exact ⟨by first | rfl | simp, rfl⟩)
      ·have e1 : fr = r := by rw [← HFR.out, if_neg h0]
       have e2 : fn = 0 := by rw [← HFN.out, if_neg h0]
       subst e1 e2
       have c1 : (xr == 0) = false := by simpa using h0
       have c2 : (xr != 0) = true := by simpa using h0
       have c3 : decide (xr = 0) = false := decide_eq_false h0
       go_wp2_with fail
       all_goals (go_meet; exact ⟨by first | rfl | simp, rfl⟩)
     case rest =>
      obtain ⟨rfl, hwq⟩ := hcut
      subst hwq
      go_upto_region 18 with fail
      clear HX HFR HFN HF2 HS HSA
      go_upto_region 19 with fail
      obtain ⟨wH, ewH, bwH, kwH0, swH⟩ := box1 wG (.cells #[.int .i64 6, .int .i64 r, .int .i64 2, .slice none 0 0] 24)
      have HEwH := Lib.hid ewH
      rw [HEwH.out]
      obtain ⟨gt, hgwH⟩ : ∃ g, wG.heap.size = g := ⟨_, rfl⟩
      have HGwH := Lib.hid hgwH
      try rw [HGwH.out]
      rw [hgwH] at kwH0
      have BwH := Lib.hid (BwG.out.trans (bwH.mono BwG.out.size))
      have HFwH := Lib.hid fun (w' : World) (hb : Below wH.heap.size wH w') => (show _ ∧ _ from ⟨HFwG.out w' (bwH.trans (hb.mono bwH.size)), core_cells (blk_below kwH0 hb)⟩)
      clear ewH bwH kwH0 swH hgwH HFwG
      try clear y0 y1 y2 y3 x0 x1 x2 gx0 gx1 gb0 gb1 gb2 gb3 gy0 gy1 gy2 gy3 gn0 gn1 gn2 gn3 ga0 ga1 gc0 gc1 gd0 gd1 gf0 gf1
      obtain ⟨⟨⟨⟨⟨⟨⟨⟨⟨⟨⟨⟨y0, y1, y2, y3⟩, ⟨x0, x1, x2⟩⟩, ⟨gx0, gx1⟩⟩, ⟨gb0, gb1, gb2, gb3⟩⟩, ⟨gy0, gy1, gy2, gy3⟩, ⟨gn0, gn1, gn2, gn3⟩⟩, -⟩, ⟨ga0, ga1⟩⟩, -⟩, ⟨gc0, gc1⟩⟩, ⟨gd0, gd1⟩⟩, ⟨gf0, gf1⟩⟩, ⟨gt0, gt1, gt2, gt3⟩⟩ := HFwH.out wH (Below.refl _ _)
      go_cut [23] from 32 (fun s23 wx => ∃ gq : Nat, s23 = .pointer (some ⟨gq, 0, none⟩) ∧ wx.heap[gq]? = some (.cells #[.int .i64 0, .int .i64 0] 34 (0, 0)) ∧ Below wH.heap.size wH wx)
      case first =>
       refine of_reg19 (v := v) (cA := boolC 0) (cB := failC r 2) (xr := 0) (xn := 0) (HV.out.below BwH.out) (HT.out.below BwH.out) (bool_lies (.inl rfl) wH) (fail_lies HRR.out (.inr rfl) wH) (fun w' hb => ?hf19) (fun a k => ?hx19) ?hj19
       case hf19 =>
        obtain ⟨⟨⟨⟨⟨⟨⟨⟨⟨⟨⟨⟨y0, y1, y2, y3⟩, ⟨x0, x1, x2⟩⟩, ⟨gx0, gx1⟩⟩, ⟨gb0, gb1, gb2, gb3⟩⟩, ⟨gy0, gy1, gy2, gy3⟩, ⟨gn0, gn1, gn2, gn3⟩⟩, -⟩, ⟨ga0, ga1⟩⟩, -⟩, ⟨gc0, gc1⟩⟩, ⟨gd0, gd1⟩⟩, ⟨gf0, gf1⟩⟩, ⟨gt0, gt1, gt2, gt3⟩⟩ := HFwH.out w' hb
        exact ⟨⟨gn0, gn1, gn2, gn3⟩, ⟨gt0, gt1, gt2, gt3⟩, ⟨x0, x1, x2⟩⟩
       case hx19 => rw [lazy_and0 HRR.out]
       case hj19 =>
        intro gq q0 q1 q2 q3 q4 q5 q6 q7 q8 wx kq bq
        go_wp2_with fail
        go_meet
        exact ⟨gq, rfl, kq, bq⟩
      case rest =>
       obtain ⟨gi, rfl, kwI, bwI⟩ := hcut
       generalize wc = wI at kwI bwI ⊢
       have BwI := Lib.hid (BwH.out.trans (bwI.mono BwH.out.size))
       have HFwI := Lib.hid fun (w' : World) (hb : Below wI.heap.size wI w') => (show _ ∧ _ from ⟨HFwH.out w' (bwI.trans (hb.mono bwI.size)), res_at (blk_below kwI hb)⟩)
       clear bwI kwI HFwH
       try clear y0 y1 y2 y3 x0 x1 x2 gx0 gx1 gb0 gb1 gb2 gb3 gy0 gy1 gy2 gy3 gn0 gn1 gn2 gn3 ga0 ga1 gc0 gc1 gd0 gd1 gf0 gf1 gt0 gt1 gt2 gt3
       obtain ⟨⟨⟨⟨⟨⟨⟨⟨⟨⟨⟨⟨⟨y0, y1, y2, y3⟩, ⟨x0, x1, x2⟩⟩, ⟨gx0, gx1⟩⟩, ⟨gb0, gb1, gb2, gb3⟩⟩, ⟨gy0, gy1, gy2, gy3⟩, ⟨gn0, gn1, gn2, gn3⟩⟩, -⟩, ⟨ga0, ga1⟩⟩, -⟩, ⟨gc0, gc1⟩⟩, ⟨gd0, gd1⟩⟩, ⟨gf0, gf1⟩⟩, ⟨gt0, gt1, gt2, gt3⟩⟩, ⟨gi0, gi1⟩⟩ := HFwI.out wI (Below.refl _ _)
       go_upto_region 20 with fail
       go_cut [25] from 32 (fun s25 wx => ∃ gq : Nat, s25 = .pointer (some ⟨gq, 0, none⟩) ∧ wx.heap[gq]? = some (.cells #[.int .i64 0, .int .i64 1] 34 (0, 0)) ∧ Below wI.heap.size wI wx)
       case first =>
        refine of_reg20 (v := v) (cA := boolC 1) (cB := failC r 2) (xr := 0) (xn := 1) (HV.out.below BwI.out) (HT.out.below BwI.out) (bool_lies (.inr rfl) wI) (fail_lies HRR.out (.inr rfl) wI) (fun w' hb => ?hf20) (fun a k => ?hx20) ?hj20
        case hf20 =>
         obtain ⟨⟨⟨⟨⟨⟨⟨⟨⟨⟨⟨⟨⟨y0, y1, y2, y3⟩, ⟨x0, x1, x2⟩⟩, ⟨gx0, gx1⟩⟩, ⟨gb0, gb1, gb2, gb3⟩⟩, ⟨gy0, gy1, gy2, gy3⟩, ⟨gn0, gn1, gn2, gn3⟩⟩, -⟩, ⟨ga0, ga1⟩⟩, -⟩, ⟨gc0, gc1⟩⟩, ⟨gd0, gd1⟩⟩, ⟨gf0, gf1⟩⟩, ⟨gt0, gt1, gt2, gt3⟩⟩, ⟨gi0, gi1⟩⟩ := HFwI.out w' hb
         exact ⟨⟨gy0, gy1, gy2, gy3⟩, ⟨gt0, gt1, gt2, gt3⟩, ⟨x0, x1, x2⟩⟩
        case hx20 => rw [lazy_or1 HRR.out]
        case hj20 =>
         intro gq q0 q1 q2 q3 q4 q5 q6 q7 q8 wx kq bq
         go_wp2_with fail
         go_meet
         exact ⟨gq, rfl, kq, bq⟩
       case rest =>
        obtain ⟨gj, rfl, kwJ, bwJ⟩ := hcut
        generalize wc = wJ at kwJ bwJ ⊢
        have BwJ := Lib.hid (BwI.out.trans (bwJ.mono BwI.out.size))
        have HFwJ := Lib.hid fun (w' : World) (hb : Below wJ.heap.size wJ w') => (show _ ∧ _ from ⟨HFwI.out w' (bwJ.trans (hb.mono bwJ.size)), res_at (blk_below kwJ hb)⟩)
        clear bwJ kwJ HFwI
        try clear y0 y1 y2 y3 x0 x1 x2 gx0 gx1 gb0 gb1 gb2 gb3 gy0 gy1 gy2 gy3 gn0 gn1 gn2 gn3 ga0 ga1 gc0 gc1 gd0 gd1 gf0 gf1 gt0 gt1 gt2 gt3 gi0 gi1
        obtain ⟨⟨⟨⟨⟨⟨⟨⟨⟨⟨⟨⟨⟨⟨y0, y1, y2, y3⟩, ⟨x0, x1, x2⟩⟩, ⟨gx0, gx1⟩⟩, ⟨gb0, gb1, gb2, gb3⟩⟩, ⟨gy0, gy1, gy2, gy3⟩, ⟨gn0, gn1, gn2, gn3⟩⟩, -⟩, ⟨ga0, ga1⟩⟩, -⟩, ⟨gc0, gc1⟩⟩, ⟨gd0, gd1⟩⟩, ⟨gf0, gf1⟩⟩, ⟨gt0, gt1, gt2, gt3⟩⟩, ⟨gi0, gi1⟩⟩, ⟨gj0, gj1⟩⟩ := HFwJ.out wJ (Below.refl _ _)
        go_upto_region 21 with fail
        go_cut [27] from 32 (fun s27 wx => ∃ gq : Nat, s27 = .pointer (some ⟨gq, 0, none⟩) ∧ wx.heap[gq]? = some (.cells #[.int .i64 r, .int .i64 0] 34 (0, 0)) ∧ Below wJ.heap.size wJ wx)
        case first =>
         refine of_reg21 (v := v) (cA := boolC 1) (cB := failC r 2) (xr := r) (xn := 0) (HV.out.below BwJ.out) (HT.out.below BwJ.out) (bool_lies (.inr rfl) wJ) (fail_lies HRR.out (.inr rfl) wJ) (fun w' hb => ?hf21) (fun a k => ?hx21) ?hj21
         case hf21 =>
          obtain ⟨⟨⟨⟨⟨⟨⟨⟨⟨⟨⟨⟨⟨⟨y0, y1, y2, y3⟩, ⟨x0, x1, x2⟩⟩, ⟨gx0, gx1⟩⟩, ⟨gb0, gb1, gb2, gb3⟩⟩, ⟨gy0, gy1, gy2, gy3⟩, ⟨gn0, gn1, gn2, gn3⟩⟩, -⟩, ⟨ga0, ga1⟩⟩, -⟩, ⟨gc0, gc1⟩⟩, ⟨gd0, gd1⟩⟩, ⟨gf0, gf1⟩⟩, ⟨gt0, gt1, gt2, gt3⟩⟩, ⟨gi0, gi1⟩⟩, ⟨gj0, gj1⟩⟩ := HFwJ.out w' hb
          exact ⟨⟨gy0, gy1, gy2, gy3⟩, ⟨gt0, gt1, gt2, gt3⟩, ⟨x0, x1, x2⟩⟩
         case hx21 => rw [lazy_and1 HRR.out]
         case hj21 =>
          intro gq q0 q1 q2 q3 q4 q5 q6 q7 q8 wx kq bq
          go_wp2_with fail
          go_meet
          exact ⟨gq, rfl, kq, bq⟩
        case rest =>
         obtain ⟨gk, rfl, kwK, bwK⟩ := hcut
         generalize wc = wK at kwK bwK ⊢
         have BwK := Lib.hid (BwJ.out.trans (bwK.mono BwJ.out.size))
         have HFwK := Lib.hid fun (w' : World) (hb : Below wK.heap.size wK w') => (show _ ∧ _ from ⟨HFwJ.out w' (bwK.trans (hb.mono bwK.size)), res_at (blk_below kwK hb)⟩)
         clear bwK kwK HFwJ
         try clear y0 y1 y2 y3 x0 x1 x2 gx0 gx1 gb0 gb1 gb2 gb3 gy0 gy1 gy2 gy3 gn0 gn1 gn2 gn3 ga0 ga1 gc0 gc1 gd0 gd1 gf0 gf1 gt0 gt1 gt2 gt3 gi0 gi1 gj0 gj1
         obtain ⟨⟨⟨⟨⟨⟨⟨⟨⟨⟨⟨⟨⟨⟨⟨y0, y1, y2, y3⟩, ⟨x0, x1, x2⟩⟩, ⟨gx0, gx1⟩⟩, ⟨gb0, gb1, gb2, gb3⟩⟩, ⟨gy0, gy1, gy2, gy3⟩, ⟨gn0, gn1, gn2, gn3⟩⟩, -⟩, ⟨ga0, ga1⟩⟩, -⟩, ⟨gc0, gc1⟩⟩, ⟨gd0, gd1⟩⟩, ⟨gf0, gf1⟩⟩, ⟨gt0, gt1, gt2, gt3⟩⟩, ⟨gi0, gi1⟩⟩, ⟨gj0, gj1⟩⟩, ⟨gk0, gk1⟩⟩ := HFwK.out wK (Below.refl _ _)
         go_upto_region 22 with fail
         go_cut [29] from 32 (fun s29 wx => ∃ gq : Nat, s29 = .pointer (some ⟨gq, 0, none⟩) ∧ wx.heap[gq]? = some (.cells #[.int .i64 r, .int .i64 0] 34 (0, 0)) ∧ Below wK.heap.size wK wx)
         case first =>
          refine of_reg22 (v := v) (cA := boolC 0) (cB := failC r 2) (xr := r) (xn := 0) (HV.out.below BwK.out) (HT.out.below BwK.out) (bool_lies (.inl rfl) wK) (fail_lies HRR.out (.inr rfl) wK) (fun w' hb => ?hf22) (fun a k => ?hx22) ?hj22
          case hf22 =>
           obtain ⟨⟨⟨⟨⟨⟨⟨⟨⟨⟨⟨⟨⟨⟨⟨y0, y1, y2, y3⟩, ⟨x0, x1, x2⟩⟩, ⟨gx0, gx1⟩⟩, ⟨gb0, gb1, gb2, gb3⟩⟩, ⟨gy0, gy1, gy2, gy3⟩, ⟨gn0, gn1, gn2, gn3⟩⟩, -⟩, ⟨ga0, ga1⟩⟩, -⟩, ⟨gc0, gc1⟩⟩, ⟨gd0, gd1⟩⟩, ⟨gf0, gf1⟩⟩, ⟨gt0, gt1, gt2, gt3⟩⟩, ⟨gi0, gi1⟩⟩, ⟨gj0, gj1⟩⟩, ⟨gk0, gk1⟩⟩ := HFwK.out w' hb
           exact ⟨⟨gn0, gn1, gn2, gn3⟩, ⟨gt0, gt1, gt2, gt3⟩, ⟨x0, x1, x2⟩⟩
          case hx22 => rw [lazy_or0 HRR.out]
          case hj22 =>
           intro gq q0 q1 q2 q3 q4 q5 q6 q7 q8 wx kq bq
           go_wp2_with fail
           go_meet
           exact ⟨gq, rfl, kq, bq⟩
         case rest =>
          obtain ⟨gl, rfl, kwL, bwL⟩ := hcut
          generalize wc = wL at kwL bwL ⊢
          have BwL := Lib.hid (BwK.out.trans (bwL.mono BwK.out.size))
          have HFwL := Lib.hid fun (w' : World) (hb : Below wL.heap.size wL w') => (show _ ∧ _ from ⟨HFwK.out w' (bwL.trans (hb.mono bwL.size)), res_at (blk_below kwL hb)⟩)
          clear bwL kwL HFwK
          try clear y0 y1 y2 y3 x0 x1 x2 gx0 gx1 gb0 gb1 gb2 gb3 gy0 gy1 gy2 gy3 gn0 gn1 gn2 gn3 ga0 ga1 gc0 gc1 gd0 gd1 gf0 gf1 gt0 gt1 gt2 gt3 gi0 gi1 gj0 gj1 gk0 gk1
          obtain ⟨⟨⟨⟨⟨⟨⟨⟨⟨⟨⟨⟨⟨⟨⟨⟨y0, y1, y2, y3⟩, ⟨x0, x1, x2⟩⟩, ⟨gx0, gx1⟩⟩, ⟨gb0, gb1, gb2, gb3⟩⟩, ⟨gy0, gy1, gy2, gy3⟩, ⟨gn0, gn1, gn2, gn3⟩⟩, -⟩, ⟨ga0, ga1⟩⟩, -⟩, ⟨gc0, gc1⟩⟩, ⟨gd0, gd1⟩⟩, ⟨gf0, gf1⟩⟩, ⟨gt0, gt1, gt2, gt3⟩⟩, ⟨gi0, gi1⟩⟩, ⟨gj0, gj1⟩⟩, ⟨gk0, gk1⟩⟩, ⟨gl0, gl1⟩⟩ := HFwL.out wL (Below.refl _ _)
          go_upto_region 24 with fail
          obtain ⟨wM, ewM, bwM, kwM0, swM⟩ := box1 wL (.cells #[.int .i64 r, .int .i64 0] 34)
          have HEwM := Lib.hid ewM
          rw [HEwM.out]
          obtain ⟨gm, hgwM⟩ : ∃ g, wL.heap.size = g := ⟨_, rfl⟩
          have HGwM := Lib.hid hgwM
          try rw [HGwM.out]
          rw [hgwM] at kwM0
          have BwM := Lib.hid (BwL.out.trans (bwM.mono BwL.out.size))
          have HFwM := Lib.hid fun (w' : World) (hb : Below wM.heap.size wM w') => (show _ ∧ _ from ⟨HFwL.out w' (bwM.trans (hb.mono bwM.size)), res_at (blk_below kwM0 hb)⟩)
          clear ewM bwM kwM0 swM hgwM HFwL
          try clear y0 y1 y2 y3 x0 x1 x2 gx0 gx1 gb0 gb1 gb2 gb3 gy0 gy1 gy2 gy3 gn0 gn1 gn2 gn3 ga0 ga1 gc0 gc1 gd0 gd1 gf0 gf1 gt0 gt1 gt2 gt3 gi0 gi1 gj0 gj1 gk0 gk1 gl0 gl1
          obtain ⟨⟨⟨⟨⟨⟨⟨⟨⟨⟨⟨⟨⟨⟨⟨⟨⟨y0, y1, y2, y3⟩, ⟨x0, x1, x2⟩⟩, ⟨gx0, gx1⟩⟩, ⟨gb0, gb1, gb2, gb3⟩⟩, ⟨gy0, gy1, gy2, gy3⟩, ⟨gn0, gn1, gn2, gn3⟩⟩, -⟩, ⟨ga0, ga1⟩⟩, -⟩, ⟨gc0, gc1⟩⟩, ⟨gd0, gd1⟩⟩, ⟨gf0, gf1⟩⟩, ⟨gt0, gt1, gt2, gt3⟩⟩, ⟨gi0, gi1⟩⟩, ⟨gj0, gj1⟩⟩, ⟨gk0, gk1⟩⟩, ⟨gl0, gl1⟩⟩, ⟨gm0, gm1⟩⟩ := HFwM.out wM (Below.refl _ _)
          go_wp2_with fail
          go_ret
          exact ⟨rfl, B1.out.trans (BwM.out.mono B1.out.size)⟩
end Go.Proofs.YtpljkcakijkklaaDoor

end
