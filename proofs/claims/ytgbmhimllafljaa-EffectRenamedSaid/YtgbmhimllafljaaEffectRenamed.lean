/- The walk of EffectRenamed. -/
import Derived.Test.YtgbmhimllafljaaRenamed
import Derived.Test.YtgbmhimllafljaaEffectUses
import Derived.Laws.StructEq
namespace Go.Proofs.Ytgbmhimllafljaa
open Go.RowKit
theorem renI_nil (s : Int) : renI s [] = s := by unfold renI; rw [if_pos (by simp; omega)]
def idL : List Int := [0, 1, 2, 3, 4, 5, 6, 7, 8]
theorem renI_id (s : Int) : renI s idL = s := by
  unfold renI idL
  by_cases h : s < 0 ∨ (9 : Int) ≤ s
  · rw [if_pos (by simpa using h)]
  · rw [if_neg (by simpa using h)]
    have : s = 0 ∨ s = 1 ∨ s = 2 ∨ s = 3 ∨ s = 4 ∨ s = 5 ∨ s = 6 ∨ s = 7 ∨ s = 8 := by omega
    rcases this with rfl | rfl | rfl | rfl | rfl | rfl | rfl | rfl | rfl <;> rfl
theorem renA_nil (op a : Int) : renA op a [] = a := by unfold renA; split <;> simp [renI_nil]
theorem renB_nil (op a : Int) : renB op a [] = a := by unfold renB; split <;> simp [renI_nil]
theorem renA_id (op a : Int) : renA op a idL = a := by unfold renA; split <;> simp [renI_id]
theorem renB_id (op a : Int) : renB op a idL = a := by unfold renB; split <;> simp [renI_id]
theorem neq_instr (p q r s t : Int) (w : World) : (binOp .neq 37 (.agg #[.int .i64 p, .int .i64 q, .int .i64 r, .int .i64 s, .int .u64 t]) (.agg #[.int .i64 p, .int .i64 q, .int .i64 r, .int .i64 s, .int .u64 t])).run Try.prog w = .ok (.bool false) w := by
  have hu : Try.prog.underlying 37 = some (.struct (Try.prog.fieldsOf 37)) := by kernel_rfl
  have hp : Try.prog.stoodInHeld 37 = false := by kernel_rfl
  rw [run_neq_struct, run_equalIn_struct w 9999 37 _ _ hu hp]
  clear hu
  simp only [Program.fieldsOf, Try.underlying37]
  go_simp
theorem holdsAt {W w : World} {S : Nat → Prop} {sz n : Nat} {v : Value} {xs : List Value} {X : Prop} (h : Holds W S sz v n xs) (hS : Below W.heap.size W w ∧ X) (hB : ∀ b, S b → b < W.heap.size) : Holds w (fun b => b < w.heap.size) sz v n xs :=
  (h.below hS.1 hB).mono fun b hb => Nat.lt_of_lt_of_le (hB b hb) (Below.size hS.1)
theorem guard_instr : Try.prog.eqGuardType Try.prog.depth 37 = false := by kernel_rfl
/-- block b is an instruction -/
def Cells5 (w : World) (b : Nat) (p q r s t : Int) : Prop := w.cell? ⟨b, 0, none⟩ = some (.int .i64 p) ∧ w.cell? ⟨b, 1, none⟩ = some (.int .i64 q) ∧ w.cell? ⟨b, 2, none⟩ = some (.int .i64 r) ∧ w.cell? ⟨b, 3, none⟩ = some (.int .i64 s) ∧ w.cell? ⟨b, 4, none⟩ = some (.int .u64 t)
theorem Cells5.new (w : World) (p q r s t : Int) (ty : TypeId) : Cells5 (w.alloc (.cells #[.int .i64 p, .int .i64 q, .int .i64 r, .int .i64 s, .int .u64 t] ty)) w.heap.size p q r s t := by
  unfold Cells5
  exact ⟨by simp, by simp, by simp, by simp, by simp⟩
theorem Cells5.keep {w w' : World} {b : Nat} {p q r s t : Int} {K : Nat → Prop} (h : Cells5 w b p q r s t) (hk : Keeps K w w') (hK : K b) : Cells5 w' b p q r s t := by
  obtain ⟨h0, h1, h2, h3, h4⟩ := h
  have hlt : b < w.heap.size := World.block_lt_of_cell? _ _ h0
  exact ⟨(hk.cell (p := ⟨b, _, none⟩) hK hlt).trans h0, (hk.cell (p := ⟨b, _, none⟩) hK hlt).trans h1, (hk.cell (p := ⟨b, _, none⟩) hK hlt).trans h2, (hk.cell (p := ⟨b, _, none⟩) hK hlt).trans h3, (hk.cell (p := ⟨b, _, none⟩) hK hlt).trans h4⟩
theorem Cells5.below {w w' : World} {b : Nat} {p q r s t : Int} (h : Cells5 w b p q r s t) (hb : Below w.heap.size w w') : Cells5 w' b p q r s t := h.keep (K := fun _ => True) (Keeps.of_below hb) trivial
set_option maxRecDepth 100000 in
set_option maxHeartbeats 1000000 in
theorem walk_EffectRenamed (x0 x1 x2 x3 x4 op : Int) (v : Value) (l : List Int) (u : Value) (cs : List Int) (w : World) (hop : 0 ≤ op ∧ op ≤ 255) (hv : Holds w (fun b => b < w.heap.size) 1 v l.length (l.map (Value.int .i64)))
    (hu : Holds w (fun b => b < w.heap.size) 1 u cs.length (cs.map (Value.int .u8))) (hcs : ∀ z ∈ cs, 0 ≤ z ∧ z ≤ 255) :
    Calls Try.prog 8 #[.agg #[.int .i64 x0, .int .i64 x1, .int .i64 x2, .int .i64 x3, .int .u64 x4], .int .u8 op, v, u] w fun e w' => e = .returned (.bool true) ∧ Below w.heap.size w w' := by
  have hv0 := hv
  obtain ⟨A, cp, rfl, hc1, hc2, _, _⟩ := hv
  unfold maxLen at hc2
  have HV := hide hv0
  have HU := hide hu
  have HC := hide hcs
  clear hv0 hu hcs
  by_cases hlen : 600 < l.length
  · have hlen2 : (600 : Int) < (l.length : Int) := by omega
    go_enter Try.func8, Try.ntmps8
    go_wp2_with (first | (go_at_call 16; refine (awake15 _).mono ?_; rintro e w1 ⟨rfl, hb1⟩))
    go_ret
    exact ⟨rfl, ((Below.refl _ _).alloc (Nat.le_refl _) _).trans (hb1.mono (by simp))⟩
  · have hlen2 : ¬ (600 : Int) < (l.length : Int) := by omega
    have hC0 := Cells5.new w x0 x1 x2 x3 x4 37
    have HC0 := hide hC0
    clear hC0
    go_enter Try.func8, Try.ntmps8
    go_wp2_with fail
    refine (awake15 _).mono ?_
    rintro e w1 ⟨rfl, hb1⟩
    have hx := HC0.out.below hb1
    have hB1 := hide (((Below.refl w.heap.size w).alloc (Nat.le_refl _) _).trans (hb1.mono (by simp)))
    have hz : w.heap.size < w1.heap.size := by have := hb1.size; simp at this; omega
    obtain ⟨hc0, hc1, hc2, hc3, hc4⟩ := hx
    clear hb1 HC0
    go_wp2_with fail
    generalize op % 25 = op2 at *
    have hBn := (Below.refl w1.heap.size w1).alloc (Nat.le_refl _) (.cells #[.int .i64 op2, .int .i64 x1, .int .i64 x2, .int .i64 x3, .int .u64 x4] 37)
    have hy := Cells5.new w1 op2 x1 x2 x3 x4 37
    refine (New_any u cs 20 _ (((HU.out.below hB1.out (fun _ h => h)).below (B := w1.heap.size) hBn (fun b hb => by omega)).mono (fun b hb => by simp; omega)) HC.out (by omega)).mono ?_
    rintro e w2 ⟨rfl, hcd, hb2⟩
    have hx2 := (Cells5.keep (K := fun _ => True) ⟨hc0, hc1, hc2, hc3, hc4⟩ (Keeps.of_below hBn) trivial).below hb2
    have hy2 := hy.below hb2
    have hB2 := hide (hB1.out.trans ((hBn.trans (hb2.mono (by simp))).mono (Nat.le_of_lt hz)))
    have hz2 : w1.heap.size + 1 < w2.heap.size := by have := hcd.2.1; simp at this; omega
    simp only [World.size_alloc] at hcd
    have HCD := hide hcd
    have HX2 := hide hx2
    have HY2 := hide hy2
    clear hc0 hc1 hc2 hc3 hc4 hBn hy hcd hx2 hy2 hb2
    go_wp2_with fail
    refine (instr_any _ _ _ HCD.out).mono ?_
    rintro e w3 ⟨⟨op3, a3, b3, rfl, _, _⟩, -, hk⟩
    have hx3 := HX2.out.keep hk (by omega)
    have hy3 := HY2.out.keep hk (by omega)
    have hB3 := hide (hB2.out.trans (hk.below (fun b hb => by omega) (by omega)))
    have hz3 : w1.heap.size + 1 < w3.heap.size := Nat.lt_of_lt_of_le hz2 hk.size
    obtain ⟨hx0, hx1, hx2, hx3, hx4⟩ := hx3
    obtain ⟨hy0, hy1, hy2, hy3, hy4⟩ := hy3
    have hz3a : w.heap.size < w3.heap.size := by omega
    have hz3b : w1.heap.size < w3.heap.size := by omega
    clear hk HCD HX2 HY2 hB1 hB2
    go_wp2_with fail
    have hI : InstrCells (((w3.alloc (.cells #[.int .i64 op3, .int .i64 a3, .int .i64 b3, .int .i64 0, .int .u64 0] 37)).alloc (.cells #[.int .i64 0, .int .i64 1, .int .i64 2, .int .i64 3, .int .i64 4, .int .i64 5, .int .i64 6, .int .i64 7, .int .i64 8] 3)).alloc
        (.cells #[.int .i64 x0, .int .i64 x1, .int .i64 x2, .int .i64 x3, .int .u64 x4, .int .i64 op2, .int .i64 x1, .int .i64 x2, .int .i64 x3, .int .u64 x4, .int .i64 op3, .int .i64 a3, .int .i64 b3, .int .i64 0, .int .u64 0] 37)) (w3.heap.size + 2) 3 := by
      intro j hj
      match j, hj with
      | 0, _ => exact ⟨x0, x1, x2, x3, x4, by go_simp, by go_simp, by go_simp, by go_simp, by go_simp⟩
      | 1, _ => exact ⟨op2, x1, x2, x3, x4, by go_simp, by go_simp, by go_simp, by go_simp, by go_simp⟩
      | 2, _ => exact ⟨op3, a3, b3, 0, 0, by go_simp, by go_simp, by go_simp, by go_simp, by go_simp⟩
    have hD : Holds (((w3.alloc (.cells #[.int .i64 op3, .int .i64 a3, .int .i64 b3, .int .i64 0, .int .u64 0] 37)).alloc (.cells #[.int .i64 0, .int .i64 1, .int .i64 2, .int .i64 3, .int .i64 4, .int .i64 5, .int .i64 6, .int .i64 7, .int .i64 8] 3)).alloc
        (.cells #[.int .i64 x0, .int .i64 x1, .int .i64 x2, .int .i64 x3, .int .u64 x4, .int .i64 op2, .int .i64 x1, .int .i64 x2, .int .i64 x3, .int .u64 x4, .int .i64 op3, .int .i64 a3, .int .i64 b3, .int .i64 0, .int .u64 0] 37)) (fun b => b = w3.heap.size + 1) 1
        (.slice (some ⟨w3.heap.size + 1, 0, none⟩) 9 9) idL.length (idL.map (Value.int .i64)) := by
      refine ⟨_, _, rfl, by decide, by decide, rfl, fun _ => ⟨_, 0, rfl, rfl, fun j u hu => ?_⟩⟩
      match j, hu with
      | 0, hu | 1, hu | 2, hu | 3, hu | 4, hu | 5, hu | 6, hu | 7, hu | 8, hu => simp [idL] at hu; subst hu; go_simp
    have hBW : Below w.heap.size w (((w3.alloc (.cells #[.int .i64 op3, .int .i64 a3, .int .i64 b3, .int .i64 0, .int .u64 0] 37)).alloc (.cells #[.int .i64 0, .int .i64 1, .int .i64 2, .int .i64 3, .int .i64 4, .int .i64 5, .int .i64 6, .int .i64 7, .int .i64 8] 3)).alloc
        (.cells #[.int .i64 x0, .int .i64 x1, .int .i64 x2, .int .i64 x3, .int .u64 x4, .int .i64 op2, .int .i64 x1, .int .i64 x2, .int .i64 x3, .int .u64 x4, .int .i64 op3, .int .i64 a3, .int .i64 b3, .int .i64 0, .int .u64 0] 37)) :=
      ((hB3.out.alloc (by omega) _).alloc (by simp; omega) _).alloc (by simp; omega) _
    have HI := hide hI
    have HD := hide hD
    have HW := hide hBW
    have HS := hide (show w3.heap.size + 2 < (((w3.alloc (.cells #[.int .i64 op3, .int .i64 a3, .int .i64 b3, .int .i64 0, .int .u64 0] 37)).alloc (.cells #[.int .i64 0, .int .i64 1, .int .i64 2, .int .i64 3, .int .i64 4, .int .i64 5, .int .i64 6, .int .i64 7, .int .i64 8] 3)).alloc
        (.cells #[.int .i64 x0, .int .i64 x1, .int .i64 x2, .int .i64 x3, .int .u64 x4, .int .i64 op2, .int .i64 x1, .int .i64 x2, .int .i64 x3, .int .u64 x4, .int .i64 op3, .int .i64 a3, .int .i64 b3, .int .i64 0, .int .u64 0] 37)).heap.size by simp)
    clear hI hD hBW hB3 hx0 hx1 hx2 hx3 hx4 hy0 hy1 hy2 hy3 hy4
    go_loopw [38] (fun i wr => ∃ k : Nat, k ≤ 3 ∧ i = .int .i64 k ∧ Hid (Below w.heap.size w wr) ∧ Hid (InstrCells wr (w3.heap.size + 2) 3) ∧ Hid (Holds wr (fun b => b = w3.heap.size + 1) 1 (.slice (some ⟨w3.heap.size + 1, 0, none⟩) 9 9) idL.length (idL.map (Value.int .i64))) ∧ Hid (w3.heap.size + 2 < wr.heap.size)) (fun i _ => 3 - (intOf i).toNat)
    case atStart => exact ⟨0, by omega, rfl, HW, HI, HD, HS⟩
    case round =>
      clear HW HI HD HS
      obtain ⟨k, hk, rfl, HW, HI, HD, HS⟩ := hrel
      by_cases hlt : k < 3
      · have hd : (k : Int) < 3 := by omega
        obtain ⟨p, q, r, s, t, h0, h1, h2, h3, h4⟩ := HI.out k hlt
        go_upto_region 10 with fail
        have hCw := Cells5.new wr p q r s t 37
        have hBr := (Below.refl wr.heap.size wr).alloc (Nat.le_refl _) (.cells #[.int .i64 p, .int .i64 q, .int .i64 r, .int .i64 s, .int .u64 t] 37)
        generalize hwe : wr.alloc (.cells #[.int .i64 p, .int .i64 q, .int .i64 r, .int .i64 s, .int .u64 t] 37) = we at *
        have hze : wr.heap.size < we.heap.size := by rw [← hwe]; simp
        have HBr := hide hBr
        have HVe := hide ((HV.out.below HW.out (fun _ h => h)).below (B := wr.heap.size) hBr (fun b hb => by have := HW.out.size; omega))
        have HDe := hide (HD.out.below (B := wr.heap.size) hBr (fun b hb => by have := HS.out; omega))
        have hse : w3.heap.size + 2 < we.heap.size ∧ w.heap.size ≤ we.heap.size := by have := HS.out; have := HW.out.size; omega
        clear hwe hBr h0 h1 h2 h3 h4
        obtain ⟨h0, h1, h2, h3, h4⟩ := hCw
        have hmg := guard_instr
        have hnq := neq_instr p q r s t
        have hnr := neq_instr p (renA p q l) (renB p r l) s t
        go_region_held3 (fun w' => Below we.heap.size we w' ∧ ∀ b o, b < we.heap.size → w'.cell? ⟨b, o, none⟩ = we.cell? ⟨b, o, none⟩) (first | (exact ⟨Below.drew (Below.refl _ _), fun _ _ _ => rfl⟩) | (refine heldS (by assumption) (by assumption)))
          (first | (go_at_call 36; refine (rRenamed_any _ _ _ _ _ (.slice A l.length cp) l _ (by exact holdsAt HVe.out (by assumption) (fun b hb => by omega))).mono ?_; rintro e wR ⟨rfl, hbR⟩) | (go_at_call_of 35 (Value.slice none 0 0); refine (Renamed_any _ _ _ _ _ _ [] _ (Holds.nil_ _ _ _)).mono ?_; rw [renA_nil, renB_nil]; rintro e wR ⟨rfl, hbR⟩) | (go_at_call_of 35 (Value.slice A l.length cp); refine (Renamed_any _ _ _ _ _ (.slice A l.length cp) l _ (by exact holdsAt HVe.out (by assumption) (fun b hb => by omega))).mono ?_; rintro e wR ⟨rfl, hbR⟩) | (go_at_call 35; refine (Renamed_any _ _ _ _ _ (.slice (some ⟨w3.heap.size + 1, 0, none⟩) 9 9) idL _ (by exact holdsAt HDe.out (by assumption) (fun b hb => by omega))).mono ?_; rw [renA_id, renB_id]; rintro e wR ⟨rfl, hbR⟩))
        have hh : Below we.heap.size we wR := And.left (by assumption)
        have HH := hide (HBr.out.trans (hh.mono (Nat.le_of_lt hze)))
        have HE := hide hh
        clear hh hnq hnr hmg
        go_wp2_with fail
        go_roundw
        case rel => exact ⟨k + 1, by omega, by go_num, hide (HW.out.trans (HH.out.mono (by have := HW.out.size; omega))), hide (HI.out.below HH.out HS.out), hide (HDe.out.below HE.out (fun b hb => by omega)), hide (Nat.lt_of_lt_of_le HS.out HH.out.size)⟩
        case measure => simp only [intOf]; omega
      · go_wp2
        go_ret
        exact ⟨rfl, HW.out⟩
theorem law_EffectRenamed (x0 x1 x2 x3 x4 op : Int) (v : Value) (l : List Int) (u : Value) (cs : List Int) (w : World) (_ : -9223372036854775808 ≤ x0 ∧ x0 ≤ 9223372036854775807) (_ : -9223372036854775808 ≤ x1 ∧ x1 ≤ 9223372036854775807)
    (_ : -9223372036854775808 ≤ x2 ∧ x2 ≤ 9223372036854775807) (_ : -9223372036854775808 ≤ x3 ∧ x3 ≤ 9223372036854775807) (_ : 0 ≤ x4 ∧ x4 ≤ 18446744073709551615) (hop : 0 ≤ op ∧ op ≤ 255)
    (hv : Holds w (fun b => b < w.heap.size) 1 v l.length (l.map (Value.int .i64))) (_ : ∀ z ∈ l, -9223372036854775808 ≤ z ∧ z ≤ 9223372036854775807) (hu : Holds w (fun b => b < w.heap.size) 1 u cs.length (cs.map (Value.int .u8))) (hcs : ∀ z ∈ cs, 0 ≤ z ∧ z ≤ 255) :
    Calls Try.prog 8 #[.agg #[.int .i64 x0, .int .i64 x1, .int .i64 x2, .int .i64 x3, .int .u64 x4], .int .u8 op, v, u] w fun e w' => e = .returned (.bool true) ∧ Below w.heap.size w w' := walk_EffectRenamed x0 x1 x2 x3 x4 op v l u cs w hop hv hu hcs

end Go.Proofs.Ytgbmhimllafljaa
