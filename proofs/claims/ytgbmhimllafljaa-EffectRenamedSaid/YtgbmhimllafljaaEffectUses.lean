/- The walk of EffectUses. -/
import Derived.Test.YtgbmhimllafljaaEffect
import Derived.Test.YtgbmhimllafljaaExtentIvLaw
namespace Go.Proofs.Ytgbmhimllafljaa
open Go.RowKit
theorem below_drewN {B : Nat} {a w : World} (h : Below B a w) (n : Nat) : Below B a (w.drewN n) := ⟨h.os, h.tape, h.output, h.size, h.block⟩
theorem Same_below (v u : Value) (l m : List Int) (S S' : Nat → Prop) (w : World) (hv : Holds w S 1 v l.length (l.map (Value.int .i64))) (hu : Holds w S' 1 u m.length (m.map (Value.int .i64))) :
    Calls Try.prog 19 #[v, u] w fun e w' => e = .returned (.bool (decide (l = m))) ∧ Below w.heap.size w w' :=
  (Same_any v u l m S S' w hv hu).mono fun _ _ ⟨h, n, hn⟩ => ⟨h, hn ▸ below_drewN (Below.refl _ _) n⟩
/-- the first n records of block b, five cells each, are instructions -/
def InstrCells (w : World) (b n : Nat) : Prop := ∀ j, j < n → ∃ p q r s t, w.cell? ⟨b, j * 5, none⟩ = some (.int .i64 p) ∧ w.cell? ⟨b, j * 5 + 1, none⟩ = some (.int .i64 q) ∧ w.cell? ⟨b, j * 5 + 2, none⟩ = some (.int .i64 r) ∧
  w.cell? ⟨b, j * 5 + 3, none⟩ = some (.int .i64 s) ∧ w.cell? ⟨b, j * 5 + 4, none⟩ = some (.int .u64 t)
theorem InstrCells.below {w w' : World} {b n B : Nat} (h : InstrCells w b n) (hb : Below B w w') (hlt : b < B) : InstrCells w' b n := fun j hj => by
  obtain ⟨p, q, r, s, t, h0, h1, h2, h3, h4⟩ := h j hj
  exact ⟨p, q, r, s, t, (hb.cell (p := ⟨b, _, none⟩) hlt).trans h0, (hb.cell (p := ⟨b, _, none⟩) hlt).trans h1, (hb.cell (p := ⟨b, _, none⟩) hlt).trans h2, (hb.cell (p := ⟨b, _, none⟩) hlt).trans h3, (hb.cell (p := ⟨b, _, none⟩) hlt).trans h4⟩
set_option maxRecDepth 100000 in
set_option maxHeartbeats 1000000 in
theorem walk_EffectUses (x0 x1 x2 x3 x4 op : Int) (w : World) (hop : 0 ≤ op ∧ op ≤ 255) :
    Calls Try.prog 5 #[.agg #[.int .i64 x0, .int .i64 x1, .int .i64 x2, .int .i64 x3, .int .u64 x4], .int .u8 op] w fun e w' => e = .returned (.bool true) ∧ Below w.heap.size w w' := by
  go_enter Try.func5, Try.ntmps5
  go_wp2_with (first | (go_at_call 16; refine (awake15 _).mono ?_; rintro e w1 ⟨rfl, hb1⟩; have hc0 := hb1.cell (p := ⟨w.heap.size, 0, none⟩) (by simp); have hc1 := hb1.cell (p := ⟨w.heap.size, 1, none⟩) (by simp); have hc2 := hb1.cell (p := ⟨w.heap.size, 2, none⟩) (by simp); have hc3 := hb1.cell (p := ⟨w.heap.size, 3, none⟩) (by simp); have hc4 := hb1.cell (p := ⟨w.heap.size, 4, none⟩) (by simp); have hz : w.heap.size < w1.heap.size := by { have := hb1.size; simp at this; omega }) | fail)
  generalize op % 25 = op2 at *
  have hI : InstrCells ((w1.alloc (.cells #[.int .i64 op2, .int .i64 x1, .int .i64 x2, .int .i64 x3, .int .u64 x4] 37)).alloc (.cells #[.int .i64 x0, .int .i64 x1, .int .i64 x2, .int .i64 x3, .int .u64 x4, .int .i64 op2, .int .i64 x1, .int .i64 x2, .int .i64 x3, .int .u64 x4] 37)) (w1.heap.size + 1) 2 := by
    intro j hj
    match j, hj with
    | 0, _ => exact ⟨x0, x1, x2, x3, x4, by go_simp, by go_simp, by go_simp, by go_simp, by go_simp⟩
    | 1, _ => exact ⟨op2, x1, x2, x3, x4, by go_simp, by go_simp, by go_simp, by go_simp, by go_simp⟩
  have hB : Below w.heap.size w ((w1.alloc (.cells #[.int .i64 op2, .int .i64 x1, .int .i64 x2, .int .i64 x3, .int .u64 x4] 37)).alloc (.cells #[.int .i64 x0, .int .i64 x1, .int .i64 x2, .int .i64 x3, .int .u64 x4, .int .i64 op2, .int .i64 x1, .int .i64 x2, .int .i64 x3, .int .u64 x4] 37)) :=
    ((((Below.refl w.heap.size w).alloc (Nat.le_refl _) _).trans (hb1.mono (by simp))).alloc (by omega) _).alloc (by simp; omega) _
  have HI := hide hI
  have HB := hide hB
  have HS := hide (show w1.heap.size + 1 < ((w1.alloc (.cells #[.int .i64 op2, .int .i64 x1, .int .i64 x2, .int .i64 x3, .int .u64 x4] 37)).alloc (.cells #[.int .i64 x0, .int .i64 x1, .int .i64 x2, .int .i64 x3, .int .u64 x4, .int .i64 op2, .int .i64 x1, .int .i64 x2, .int .i64 x3, .int .u64 x4] 37)).heap.size by simp)
  clear hI hB hc0 hc1 hc2 hc3 hc4 hb1
  go_loopw [23] (fun i wr => ∃ k : Nat, k ≤ 2 ∧ i = .int .i64 k ∧ Hid (Below w.heap.size w wr) ∧ Hid (InstrCells wr (w1.heap.size + 1) 2) ∧ Hid (w1.heap.size + 1 < wr.heap.size)) (fun i _ => 2 - (intOf i).toNat)
  case atStart => exact ⟨0, by omega, rfl, HB, HI, HS⟩
  case round =>
    clear HB HI HS
    obtain ⟨k, hk, rfl, HB, HI, HS⟩ := hrel
    by_cases hlt : k < 2
    · have hd : (k : Int) < 2 := by omega
      obtain ⟨p, q, r, s, t, h0, h1, h2, h3, h4⟩ := HI.out k hlt
      have hD := fun W => Defines_any p q r s t W
      have hD2 := fun W => rDefines_any p q r s t W
      have hU := fun W => Uses_any p q r s t W
      have hU2 := fun W => rUses_any p q r s t W
      have hR := fun W => Removable_any p q r s t W
      have hR2 := fun W => rRemovable_any p q r s t W
      unfold instrV at hD hD2 hU hU2 hR hR2
      have HD := hide hD; clear hD
      have HD2 := hide hD2; clear hD2
      have HU := hide hU; clear hU
      have HU2 := hide hU2; clear hU2
      have HR := hide hR; clear hR
      have HR2 := hide hR2; clear hR2
      go_upto_region 10 with (first | (go_at_call 17; refine (HD.out _).mono ?_; rintro e wd ⟨rfl, hbd⟩; have hzd : wr.heap.size < wd.heap.size := by { have := hbd.size; simp at this; omega }; obtain ⟨hcd, hfd⟩ := bcell hbd) | (go_at_call 18; refine (HD2.out _).mono ?_; rintro e we ⟨rfl, hbe⟩; have hze : wr.heap.size < we.heap.size := by { have := hbe.size; omega }; obtain ⟨hce, hfe⟩ := bcell hbe))
      clear hcd hfd
      obtain ⟨hce0, hce1, hce2, hce3, hce4⟩ : we.cell? ⟨wr.heap.size, 0, none⟩ = some (.int .i64 p) ∧ we.cell? ⟨wr.heap.size, 1, none⟩ = some (.int .i64 q) ∧ we.cell? ⟨wr.heap.size, 2, none⟩ = some (.int .i64 r) ∧ we.cell? ⟨wr.heap.size, 3, none⟩ = some (.int .i64 s) ∧ we.cell? ⟨wr.heap.size, 4, none⟩ = some (.int .u64 t) := by
        have hc := (bcell hbe).1
        have hc' := (bcell hbd).1
        have hlt1 : wr.heap.size < (wr.alloc (.cells #[.int .i64 p, .int .i64 q, .int .i64 r, .int .i64 s, .int .u64 t] 37)).heap.size := by simp
        refine ⟨?_, ?_, ?_, ?_, ?_⟩ <;> rw [hc _ _ hzd, hc' _ _ hlt1] <;> go_simp
      have HBE := hide ((((Below.refl wr.heap.size wr).alloc (Nat.le_refl _) _).trans (hbd.mono (by simp))).trans (hbe.mono (Nat.le_of_lt hzd)))
      clear hbd hbe hce hfe
      go_region_held3 (fun w' => Below we.heap.size we w' ∧ ∀ b o, b < we.heap.size → w'.cell? ⟨b, o, none⟩ = we.cell? ⟨b, o, none⟩) (first | (exact ⟨Below.drew (Below.refl _ _), fun _ _ _ => rfl⟩) | (refine heldS (by assumption) (by assumption)))
        (first | (go_at_call 20; refine (HU.out _).mono ?_; rintro e wU ⟨⟨v1, rfl, hv1⟩, hbU⟩) | (go_at_call 21; refine (HU2.out _).mono ?_; rintro e wR ⟨⟨v2, rfl, hv2⟩, hbR⟩) | (go_at_call 19; refine (Same_below v1 v2 _ _ _ _ _ (hv1.below hbR (fun _ h => h)) hv2).mono ?_; rintro e wS ⟨rfl, hbS⟩) | (go_at_call 22; refine (HR.out _).mono ?_; rintro e wT ⟨rfl, hbT⟩) | (go_at_call 23; refine (HR2.out _).mono ?_; rintro e wV ⟨rfl, hbV⟩))
      have hh : Below we.heap.size we wV := And.left (by assumption)
      have HH := hide (HBE.out.trans (hh.mono (Nat.le_of_lt (Nat.lt_of_lt_of_le hze (Nat.le_refl _)))))
      clear hh hbU hbR hbS hbT hbV hv1 hv2
      go_wp2_with fail
      go_roundw
      case rel => exact ⟨k + 1, by omega, by go_num, hide (HB.out.trans (HH.out.mono (by have := HS.out; have := HB.out.size; omega))), hide (HI.out.below HH.out HS.out), hide (Nat.lt_of_lt_of_le HS.out HH.out.size)⟩
      case measure => simp only [intOf]; omega
    · go_wp2
      go_ret
      exact ⟨rfl, HB.out⟩
theorem law_EffectUses (x0 x1 x2 x3 x4 op : Int) (w : World) (_ : -9223372036854775808 ≤ x0 ∧ x0 ≤ 9223372036854775807) (_ : -9223372036854775808 ≤ x1 ∧ x1 ≤ 9223372036854775807) (_ : -9223372036854775808 ≤ x2 ∧ x2 ≤ 9223372036854775807)
    (_ : -9223372036854775808 ≤ x3 ∧ x3 ≤ 9223372036854775807) (_ : 0 ≤ x4 ∧ x4 ≤ 18446744073709551615) (hop : 0 ≤ op ∧ op ≤ 255) :
    Calls Try.prog 5 #[.agg #[.int .i64 x0, .int .i64 x1, .int .i64 x2, .int .i64 x3, .int .u64 x4], .int .u8 op] w fun e w' => e = .returned (.bool true) ∧ Below w.heap.size w w' := walk_EffectUses x0 x1 x2 x3 x4 op w hop

end Go.Proofs.Ytgbmhimllafljaa
