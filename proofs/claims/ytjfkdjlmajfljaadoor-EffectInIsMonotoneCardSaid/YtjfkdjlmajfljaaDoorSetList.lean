/- Sets in memory: list (the table of math/bits: a premise). -/
import Derived.Test.YtjfkdjlmajfljaaDoorSetWith
namespace Go.Proofs.YtjfkdjlmajfljaaDoor
open Go.ChangeShapes Go.WideShapes Go.ChangeAt Go.RowKit Go.Deep
/-- The table of math/bits stands in block 0. -/
def Tab (w : World) : Prop := ∀ j, j < 64 → w.cell? ⟨0, j, none⟩ = some (.int .u8 ((Lib.deBruijn64tab.getD j 0 : Nat) : Int))
theorem Tab.pos {w : World} (h : Tab w) : 0 < w.heap.size := World.block_lt_of_cell? _ _ (h 0 (by omega))
theorem Tab.below {w w' : World} {B : Nat} (h : Tab w) (hb : Below B w w') (hB : 0 < B) : Tab w' := fun j hj => by rw [← h j hj]; exact Below.cell hb hB
theorem Tab.below' {w w' : World} (h : Tab w) (hb : Below w.heap.size w w') : Tab w' := h.below hb h.pos
theorem Tab.keep {w w' : World} {K : Nat → Prop} (h : Tab w) (hk : Keeps K w w') (h0 : K 0) : Tab w' := fun j hj => by rw [← h j hj]; exact hk.cell h0 h.pos
theorem tz_key (x a : Nat) (hx : x < 18446744073709551616) (hx0 : x ≠ 0) (hlow : x &&& (18446744073709551616 - x) = a) :
    IntKind.u64.wrap (bits BinOp.and IntKind.u64 (x : Int) (IntKind.u64.wrap (-(x : Int))) * 285870213051353865) / 288230376151711744 = ((a * 285870213051353865 % 18446744073709551616 / 288230376151711744 : Nat) : Int) := by
  have e1 : IntKind.u64.wrap (-(x : Int)) = ((18446744073709551616 - x : Nat) : Int) := by rw [IntKind.wrap_u64]; omega
  rw [e1, bits_and_u64_nat x _ hx (by omega), hlow, IntKind.wrap_u64]
  omega
set_option maxHeartbeats 1000000 in
theorem tz_core (x k idx : Nat) (w : World) (hx0 : ((x : Int) == 0) = false)
    (key : IntKind.u64.wrap (bits BinOp.and IntKind.u64 (x : Int) (IntKind.u64.wrap (-(x : Int))) * 285870213051353865) / 288230376151711744 = (idx : Int))
    (hi : idx < 64) (hk : k < 64) (hcell : w.cell? ⟨0, idx, none⟩ = some (.int .u8 k)) :
    Calls Tryd.prog 71 #[.int .u64 x] w fun e w' => e = .returned (.int .i64 k) ∧ w = w' := by
  go_enter Tryd.func71, Tryd.ntmps71
  go_wp2_with (simp only [key])
  go_ret
  exact ⟨rfl, rfl⟩
theorem tz_any (x : Nat) (hx : x < 18446744073709551616) (hx0 : x ≠ 0) (w : World) (hT : Tab w) :
    Calls Tryd.prog 71 #[.int .u64 x] w fun e w' => e = .returned (.int .i64 (Lib.ctz 64 x)) ∧ w = w' := by
  obtain ⟨hlow, hk⟩ := Lib.lowest_bit 64 x hx0 hx
  obtain ⟨hi, htab⟩ := Lib.deBruijn64_at _ hk
  refine tz_core x (Lib.ctz 64 x) _ w (by simp; omega) (tz_key x _ hx hx0 hlow) hi hk ?_
  have := hT _ hi
  rw [htab] at this
  exact this
/-- The elements of a set, ascending. -/
def listP (p : Nat → Bool) : List Int := ((List.range 512).filter p).map (fun k : Nat => (k : Int))
def wordsL (p : Nat → Bool) (j : Nat) : List Int := ((List.range (64 * j)).filter p).map (fun k : Nat => (k : Int))
def wordL (j x : Nat) : List Int := (bitsOf x).map (fun i : Nat => ((64 * j + i : Nat) : Int))
theorem wordsL_zero (p : Nat → Bool) : wordsL p 0 = [] := rfl
theorem wordsL_succ (p : Nat → Bool) (j : Nat) : wordsL p j ++ wordL j (wordOf p j) = wordsL p (j + 1) := by
  unfold wordsL wordL bitsOf
  rw [Nat.mul_succ, List.range_add, List.filter_append, List.map_append]
  congr 1
  rw [List.filter_map, List.map_map]
  have : (List.range 64).filter (wordOf p j).testBit = (List.range 64).filter (p ∘ fun x => 64 * j + x) := by
    apply List.filter_congr
    intro i hi
    exact wordOf_bit p j (by simpa using hi)
  rw [this]
  rfl
theorem wordL_zero (j : Nat) : wordL j 0 = [] := by unfold wordL; rw [bitsOf_zero]; rfl
theorem wordL_step (j : Nat) {x : Nat} (h0 : x ≠ 0) (hx : x < 18446744073709551616) : wordL j x = ((64 * j + Lib.ctz 64 x : Nat) : Int) :: wordL j (x &&& (x - 1)) := by
  unfold wordL; rw [(bitsOf_step h0 hx).1]; rfl
theorem wordsL_length (p : Nat → Bool) (j : Nat) (hj : j ≤ 8) : (wordsL p j).length ≤ 512 := by
  unfold wordsL
  rw [List.length_map]
  exact Nat.le_trans (List.length_filter_le _ _) (by simp; omega)
theorem and_pred_bits {x : Nat} (h0 : x ≠ 0) (hx : x < 18446744073709551616) : bits BinOp.and IntKind.u64 (x : Int) ((x : Int) - 1) = ((x &&& (x - 1) : Nat) : Int) := by
  have e : (x : Int) - 1 = ((x - 1 : Nat) : Int) := by omega
  rw [e, bits_and_u64_nat _ _ hx (by omega)]
set_option maxHeartbeats 1000000 in
theorem list_any (g : Nat) (p : Nat → Bool) (w : World) (h : SetAt w g p) (hT : Tab w) :
    Calls Tryd.prog 62 #[.pointer (some ⟨g, 0, none⟩)] w fun e w' => (∃ r, e = .returned r ∧ Row w' w.heap.size r (listP p)) ∧ Below w.heap.size w w' := by
  have H := hide h
  have HT := hide hT
  have hg := WordsAt.lt h
  clear h hT
  go_enter Tryd.func62, Tryd.ntmps62
  go_wp2
  go_loopw [3, 7] (fun r i wr => ∃ k : Nat, k ≤ 8 ∧ i = .int .i64 k ∧ Hid (Row wr w.heap.size r (wordsL p k)) ∧ Hid (Below w.heap.size w wr)) (fun _ i _ => 8 - (intOf i).toNat)
  case atStart => exact ⟨0, by omega, rfl, hide (by rw [wordsL_zero]; exact Row.nil _ _), hide (Below.refl _ _)⟩
  case round =>
    obtain ⟨k, hk, rfl, HO, HB⟩ := hrel
    by_cases hlt : k < 8
    · have hd : (k : Int) < 8 := by omega
      have c1 := WordsAt.cell (H.out.below HB.out hg) hlt
      go_wp2
      go_quiet (fail)
      go_wp2
      go_loopw [3, 5] (fun r i wx => ∃ (x : Nat) (out : List Int), x < 18446744073709551616 ∧ i = .int .u64 x ∧ Hid (Row wx w.heap.size r out) ∧ Hid (out ++ wordL k x = wordsL p (k + 1)) ∧ Hid (Below w.heap.size w wx)) (fun _ i _ => (intOf i).toNat)
      case atStart => exact ⟨_, _, wordOf_lt p k, rfl, hide (Row.below HO.out (below_drewN2 (Below.refl _ _) _)), hide (wordsL_succ p k), hide (below_drewN2 HB.out _)⟩
      case round =>
        clear HO HB
        obtain ⟨x, out, hx, rfl, HO, HE, HB⟩ := hrel
        by_cases hx0 : x = 0
        · subst hx0
          have HE2 := HE.out
          rw [wordL_zero, List.append_nil] at HE2
          subst HE2
          go_wp2
          exact ⟨⟨k + 1, by omega, by go_num, HO, HB⟩, by simp only [intOf]; omega⟩
        · have hd0 : ((x : Int) != 0) = true := by simp; omega
          have hw := HE.out
          rw [wordL_step k hx0 hx] at hw
          have hol : out.length ≤ 512 := by
            have h1 := congrArg List.length hw
            have h2 := wordsL_length p (k + 1) (by omega)
            rw [List.length_append] at h1
            omega
          have HW := hide hw
          have hap := and_pred_bits hx0 hx
          have HTr := hide (HT.out.below HB.out HT.out.pos)
          have hcz := (bitsOf_step hx0 hx).2
          have hlt2 : x &&& (x - 1) < x := Nat.lt_of_le_of_lt Nat.and_le_right (by omega)
          clear hw
          go_wp2_with (first | (go_at_call 71; refine (tz_any _ hx hx0 _ HTr.out).mono ?_; rintro e w' ⟨rfl, rfl⟩) | (at_builtin; refine app_int rfl _ _ rfl _ _ _ _ _ rfl rfl HO.out (by omega) HB.out.size ?_))
          rintro v' w' hr hkp
          have HR := hide hr
          have HBx := hide (below_app HB.out HO.out hkp)
          clear hr hkp
          go_wp2
          go_roundw
          case rel =>
            refine ⟨x &&& (x - 1), _, by omega, rfl, HR, hide ?_, HBx⟩
            have := HW.out
            rw [← this]
            simp
          case measure => simp only [intOf]; omega
    · have hd : ¬ (k : Int) < 8 := by omega
      have : k = 8 := by omega
      subst this
      go_wp2
      go_ret
      exact ⟨⟨_, rfl, HO.out⟩, HB.out⟩
end Go.Proofs.YtjfkdjlmajfljaaDoor
