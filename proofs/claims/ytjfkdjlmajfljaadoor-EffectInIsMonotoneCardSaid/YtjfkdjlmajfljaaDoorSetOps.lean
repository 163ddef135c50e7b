/- The reference of sets: Meet, Minus, Of, Union, Within. -/
import Derived.Test.YtjfkdjlmajfljaaDoorSetHas
namespace Go.Proofs.YtjfkdjlmajfljaaDoor
open Go.ChangeShapes Go.WideShapes Go.ChangeAt Go.RowKit Go.Deep
set_option maxHeartbeats 1000000 in
theorem rMeet_any (v u : Value) (l m : List Int) (w : World) (hv : Holds w (fun b => b < w.heap.size) 1 v l.length (l.map (Value.int .i64))) (hu : Holds w (fun b => b < w.heap.size) 1 u m.length (m.map (Value.int .i64))) (hlen : l.length ≤ 100000) :
    Calls Tryd.prog 28 #[v, u] w fun e w' => (∃ r, e = .returned r ∧ Row w' w.heap.size r (meetL l m)) ∧ Below w.heap.size w w' := by
  have HV := hide hv
  have HU := hide hu
  obtain ⟨A, c, rfl, hc1, hc2, _, _⟩ := hv
  unfold maxLen at hc2
  clear hu
  go_enter Tryd.func28, Tryd.ntmps28
  go_wp2
  go_loopw [5, 6] (fun r i wr => ∃ (k : Nat), k ≤ l.length ∧ i = .int .i64 k ∧ Hid (Row wr w.heap.size r (meetL (l.take k) m)) ∧ Hid (Below w.heap.size w wr)) (fun _ i _ => l.length - (intOf i).toNat)
  case atStart => exact ⟨0, by omega, rfl, hide (Row.nil _ _), hide (Below.refl _ _)⟩
  case round =>
    obtain ⟨k, hk, rfl, HO, HB⟩ := hrel
    by_cases hlt : k < l.length
    · have hd : (k : Int) < (l.length : Int) := by omega
      obtain ⟨b, o, rfl, hSb, hx⟩ := (HV.out.below HB.out (fun b h => h)).atInt hlt
      have HUr := hide (HU.out.below HB.out (fun b h => h))
      cases he : hasL m l[k]
      · have HX := hide he
        go_wp2_with (first | (go_at_call 32; refine (rHas_any _ _ _ _ _ HUr.out).mono ?_; rw [HX.out]; rintro e w' ⟨rfl, rfl⟩))
        go_roundw
        case rel =>
          refine ⟨k + 1, by omega, by go_num, ?_, HB⟩
          unfold meetL; rw [filter_take_no hlt (by simp [HX.out])]; exact HO
        case measure => simp only [intOf]; omega
      · have HX := hide he
        go_wp2_with (first | (go_at_call 32; refine (rHas_any _ _ _ _ _ HUr.out).mono ?_; rw [HX.out]; rintro e w' ⟨rfl, rfl⟩) | (at_builtin; refine app_int rfl _ _ rfl _ _ _ _ _ rfl rfl HO.out (Nat.le_trans filter_take_le (by omega)) HB.out.size ?_))
        rintro v' w' hr hkp
        have HR := hide hr
        have HBx := hide (below_app HB.out HO.out hkp)
        clear hr hkp
        go_wp2
        go_roundw
        case rel =>
          refine ⟨k + 1, by omega, by go_num, ?_, HBx⟩
          unfold meetL; rw [filter_take_yes hlt (by simp [HX.out])]; exact HR
        case measure => simp only [intOf]; omega
    · have hd : ¬ (k : Int) < (l.length : Int) := by omega
      go_wp2
      go_ret
      exact ⟨⟨_, rfl, by have := HO.out; unfold meetL at this; rwa [filter_take_all hk hlt] at this⟩, HB.out⟩
set_option maxHeartbeats 1000000 in
theorem rMinus_any (v u : Value) (l m : List Int) (w : World) (hv : Holds w (fun b => b < w.heap.size) 1 v l.length (l.map (Value.int .i64))) (hu : Holds w (fun b => b < w.heap.size) 1 u m.length (m.map (Value.int .i64))) (hlen : l.length ≤ 100000) :
    Calls Tryd.prog 52 #[v, u] w fun e w' => (∃ r, e = .returned r ∧ Row w' w.heap.size r (minusL l m)) ∧ Below w.heap.size w w' := by
  have HV := hide hv
  have HU := hide hu
  obtain ⟨A, c, rfl, hc1, hc2, _, _⟩ := hv
  unfold maxLen at hc2
  clear hu
  go_enter Tryd.func52, Tryd.ntmps52
  go_wp2
  go_loopw [5, 6] (fun r i wr => ∃ (k : Nat), k ≤ l.length ∧ i = .int .i64 k ∧ Hid (Row wr w.heap.size r (minusL (l.take k) m)) ∧ Hid (Below w.heap.size w wr)) (fun _ i _ => l.length - (intOf i).toNat)
  case atStart => exact ⟨0, by omega, rfl, hide (Row.nil _ _), hide (Below.refl _ _)⟩
  case round =>
    obtain ⟨k, hk, rfl, HO, HB⟩ := hrel
    by_cases hlt : k < l.length
    · have hd : (k : Int) < (l.length : Int) := by omega
      obtain ⟨b, o, rfl, hSb, hx⟩ := (HV.out.below HB.out (fun b h => h)).atInt hlt
      have HUr := hide (HU.out.below HB.out (fun b h => h))
      cases he : hasL m l[k]
      · have HX := hide he
        go_wp2_with (first | (go_at_call 32; refine (rHas_any _ _ _ _ _ HUr.out).mono ?_; rw [HX.out]; rintro e w' ⟨rfl, rfl⟩) | (at_builtin; refine app_int rfl _ _ rfl _ _ _ _ _ rfl rfl HO.out (Nat.le_trans filter_take_le (by omega)) HB.out.size ?_))
        rintro v' w' hr hkp
        have HR := hide hr
        have HBx := hide (below_app HB.out HO.out hkp)
        clear hr hkp
        go_wp2
        go_roundw
        case rel =>
          refine ⟨k + 1, by omega, by go_num, ?_, HBx⟩
          unfold minusL; rw [filter_take_yes hlt (by simp [HX.out])]; exact HR
        case measure => simp only [intOf]; omega
      · have HX := hide he
        go_wp2_with (first | (go_at_call 32; refine (rHas_any _ _ _ _ _ HUr.out).mono ?_; rw [HX.out]; rintro e w' ⟨rfl, rfl⟩))
        go_roundw
        case rel =>
          refine ⟨k + 1, by omega, by go_num, ?_, HB⟩
          unfold minusL; rw [filter_take_no hlt (by simp [HX.out])]; exact HO
        case measure => simp only [intOf]; omega
    · have hd : ¬ (k : Int) < (l.length : Int) := by omega
      go_wp2
      go_ret
      exact ⟨⟨_, rfl, by have := HO.out; unfold minusL at this; rwa [filter_take_all hk hlt] at this⟩, HB.out⟩
set_option maxHeartbeats 1000000 in
theorem rUnion_any (v u : Value) (a l : List Int) (base : Nat) (w : World) (ha : Row w base v a) (hv : Holds w (fun b => b < w.heap.size) 1 u l.length (l.map (Value.int .i64))) (hlena : a.length ≤ 50000) (hlen : l.length ≤ 50000) :
    Calls Tryd.prog 26 #[v, u] w fun e w' => (∃ r, e = .returned r ∧ Row w' w.heap.size r (unionL a l)) ∧ Below w.heap.size w w' := by
  have HV := hide hv
  have HA := hide ha
  obtain ⟨A, c, rfl, hc1, hc2, _, _⟩ := hv
  unfold maxLen at hc2
  go_enter Tryd.func26, Tryd.ntmps26
  go_wp2_with (at_builtin; refine app_row rfl _ _ rfl _ w.heap.size _ _ _ _ _ rfl rfl (Row.nil _ _) HA.out (by simp; omega) (Nat.le_refl _) ?_)
  rintro v' w' hr hkp
  have HR := hide hr
  have HB0 : Hid (Below w.heap.size w w') := hide (below_app (Below.refl _ _) (Row.nil _ _) hkp)
  clear hr hkp ha
  go_wp2
  go_loopw [5, 6] (fun r i wr => ∃ (k : Nat), k ≤ l.length ∧ i = .int .i64 k ∧ Hid (Row wr w.heap.size r (unionL a (l.take k))) ∧ Hid (Below w.heap.size w wr)) (fun _ i _ => l.length - (intOf i).toNat)
  case atStart => exact ⟨0, by omega, rfl, HR, HB0⟩
  case round =>
    clear HR HB0
    obtain ⟨k, hk, rfl, HO, HB⟩ := hrel
    by_cases hlt : k < l.length
    · have hd : (k : Int) < (l.length : Int) := by omega
      obtain ⟨b, o, rfl, hSb, hx⟩ := (HV.out.below HB.out (fun b h => h)).atInt hlt
      have hstep : unionL a (l.take (k + 1)) = addL (unionL a (l.take k)) l[k] := foldl_take_succ hlt
      have hol : (unionL a (l.take k)).length ≤ 100000 := by have := foldl_addL_length (l.take k) a; simp at this; unfold unionL; omega
      have HST := hide hstep
      clear hstep
      go_wp2_with fail
      refine (rAdd_any _ _ _ _ HO.out.holdsLt hol).mono ?_
      rintro e w' ⟨⟨r, rfl, hr⟩, hb⟩
      have HR := hide (hr.lower HB.out.size)
      have HBx := hide (HB.out.trans (hb.mono HB.out.size))
      clear hr hb
      go_wp2
      go_roundw
      case rel => exact ⟨k + 1, by omega, by go_num, by rw [HST.out]; exact HR, HBx⟩
      case measure => simp only [intOf]; omega
    · have hd : ¬ (k : Int) < (l.length : Int) := by omega
      go_wp2
      go_ret
      exact ⟨⟨_, rfl, by have := HO.out; rwa [List.take_of_length_le (by omega)] at this⟩, HB.out⟩
def withinL (a b : List Int) : Bool := (minusL a b).isEmpty
set_option maxHeartbeats 400000 in
theorem rWithin_any (v u : Value) (l m : List Int) (w : World) (hv : Holds w (fun b => b < w.heap.size) 1 v l.length (l.map (Value.int .i64))) (hu : Holds w (fun b => b < w.heap.size) 1 u m.length (m.map (Value.int .i64))) (hlen : l.length ≤ 100000) :
    Calls Tryd.prog 27 #[v, u] w fun e w' => e = .returned (.bool (withinL l m)) ∧ Below w.heap.size w w' := by
  have H := hide (rMinus_any v u l m w hv hu hlen)
  clear hv hu
  go_enter Tryd.func27, Tryd.ntmps27
  go_wp2_with fail
  refine H.out.mono ?_
  rintro e w' ⟨⟨r, rfl, hr⟩, hb⟩
  obtain ⟨A, c, rfl, _, hc2, _, _⟩ := hr.holds
  have HL : Hid ((((minusL l m).length : Int) == 0) = withinL l m) := hide (by unfold withinL; cases minusL l m <;> simp; omega)
  clear hr H
  go_wp2
  go_ret
  exact ⟨by rw [← HL.out]; rfl, hb⟩
end Go.Proofs.YtjfkdjlmajfljaaDoor
