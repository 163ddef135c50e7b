/- The walk of BitsetOf. -/
import Derived.Test.YtgbmhimllafljaaDoorBitset
import Derived.Test.YtgbmhimllafljaaDoorSetLaws
import Derived.Test.YtgbmhimllafljaaDoorSame
namespace Go.Proofs.YtgbmhimllafljaaDoor
open Go.ChangeShapes Go.WideShapes Go.ChangeAt Go.RowKit Go.Deep
def l313 : List Int := [3, 1, 3]
theorem of313 : ofL l313 = [1, 3] := by decide
set_option maxHeartbeats 1000000 in
theorem awake04 (w : World) (hT : Tab w) : Calls Tryd.prog 8 #[] w fun e w' => e = .returned (.bool true) ∧ Below w.heap.size w w' := by
  have HT := hide hT
  have HBa := hide ((Below.refl w.heap.size w).alloc (Nat.le_refl _) (Obj.cells #[.int .i64 3, .int .i64 1, .int .i64 3] 3))
  have HV : Hid (Holds (w.alloc (Obj.cells #[.int .i64 3, .int .i64 1, .int .i64 3] 3)) (fun b => b < (w.alloc (Obj.cells #[.int .i64 3, .int .i64 1, .int .i64 3] 3)).heap.size) 1 (.slice (some ⟨w.heap.size, 0, none⟩) 3 3) l313.length (l313.map (Value.int .i64))) := by
    refine hide ⟨_, _, rfl, by decide, by decide, rfl, fun _ => ⟨_, 0, rfl, by simp, fun j u hu => ?_⟩⟩
    match j, hu with
    | 0, hu | 1, hu | 2, hu => simp [l313] at hu; subst hu; go_simp
  have HTa := hide (HT.out.below' HBa.out)
  clear hT
  go_enter Tryd.func8, Tryd.ntmps8
  go_wp2_with fail
  refine (Of_any _ _ _ HV.out HTa.out).mono ?_
  rintro e w1 ⟨⟨r, rfl, hr⟩, hb⟩
  rw [listP_of, of313] at hr
  have HR := hide hr
  have HB := hide (HBa.out.trans (hb.mono HBa.out.size))
  clear hb HV HTa HBa
  obtain ⟨A, c, rfl, hc1, hc2, _, _⟩ := hr.holdsLt
  clear hr
  go_wp2_with fail
  refine (Has_any _ _ _ _ HR.out.holdsLt).mono ?_
  rintro e w2 ⟨rfl, hb2⟩
  have HF : Hid (hasI (memP [1, 3]) 3 = true) := hide (by decide)
  have HB2 := hide (HB.out.trans (hb2.mono HB.out.size))
  rw [HF.out]
  clear hb2
  go_wp2
  go_ret
  exact ⟨rfl, HB2.out⟩
set_option maxRecDepth 100000 in
set_option maxHeartbeats 1000000 in
theorem walk_BitsetOf (v : Value) (l : List Int) (w : World) (hv : Holds w (fun b => b < w.heap.size) 1 v l.length (l.map (Value.int .i64))) (hT : Tab w) :
    Calls Tryd.prog 3 #[v] w fun e w' => e = .returned (.bool true) ∧ Below w.heap.size w w' := by
  have HV := hide hv
  have HT := hide hT
  obtain ⟨A, c, rfl, hc1, hc2, _, _⟩ := hv
  unfold maxLen at hc2
  clear hT
  by_cases hlen : 600 < l.length
  · have hlen2 : (600 : Int) < (l.length : Int) := by omega
    go_enter Tryd.func3, Tryd.ntmps3
    go_wp2_with (first | (go_at_call 8; refine (awake04 _ HT.out).mono ?_; rintro e w1 ⟨rfl, hb1⟩))
    go_ret
    exact ⟨rfl, hb1⟩
  · have hlen2 : ¬ (600 : Int) < (l.length : Int) := by omega
    go_enter Tryd.func3, Tryd.ntmps3
    go_wp2_with (first | (go_at_call 8; refine (awake04 _ HT.out).mono ?_; rintro e w1 ⟨rfl, hb1⟩) | fail)
    have HV1 := hide ((HV.out.below hb1 (fun b h => h)).mono (S' := fun b => b < w1.heap.size) (fun b h => by have := hb1.size; omega))
    have HT1 := hide (HT.out.below' hb1)
    have HB1 := hide hb1
    clear hb1
    refine (Of_any _ _ _ HV1.out HT1.out).mono ?_
    rintro e w2 ⟨⟨r, rfl, hr⟩, hb2⟩
    rw [listP_of] at hr
    have HR := hide hr
    have HV2 := hide ((HV1.out.below hb2 (fun b h => h)).mono (S' := fun b => b < w2.heap.size) (fun b h => by have := hb2.size; omega))
    have HB2 := hide (HB1.out.trans (hb2.mono HB1.out.size))
    clear hr hb2
    go_wp2_with fail
    refine (rOf_any _ _ _ HV2.out (by omega)).mono ?_
    rintro e w3 ⟨⟨r2, rfl, hr2⟩, hb3⟩
    have HR2 := hide hr2
    have HRb := hide (HR.out.below hb3)
    have HV3 := hide ((HV2.out.below hb3 (fun b h => h)).mono (S' := fun b => b < w3.heap.size) (fun b h => by have := hb3.size; omega))
    have HB3 := hide (HB2.out.trans (hb3.mono HB2.out.size))
    clear hr2 hb3
    go_wp2_with fail
    refine (Same_any _ _ _ _ _ _ _ HRb.out.holds HR2.out.holds).mono ?_
    rintro e w4 ⟨rfl, nq, rfl⟩
    have HF : Hid (decide (ofL l = ofL l) = true) := hide (by simp)
    rw [HF.out]
    have HV4 : Hid (Holds (w3.drewN nq) (fun b => b < (w3.drewN nq).heap.size) 1 (.slice A l.length c) l.length (l.map (Value.int .i64))) := HV3
    have HR4 : Hid (Row (w3.drewN nq) w1.heap.size r (ofL l)) := HRb
    have HB4 : Hid (Below w.heap.size w (w3.drewN nq)) := hide (below_drewN2 HB3.out nq)
    clear HV3 HRb HB3 HR2
    generalize w3.drewN nq = w4 at *
    go_wp2_with (first | (go_at_call 12; refine (Check_any _ _ _ _ HV4.out).mono ?_; rintro e w' ⟨rfl, rfl⟩) | fail)
    refine (rCheck_any _ _ _ _ HV4.out (fun _ h => h)).mono ?_
    rintro e w5 ⟨rfl, hb5⟩
    have HR5 := hide (HR4.out.below hb5)
    have HB5 := hide (HB4.out.trans (hb5.mono HB4.out.size))
    have HC : Hid (checkL (ofL l) = true) := hide (checkL_set (IsSet.ofL l))
    clear hb5
    go_wp2_with (first | (go_at_call 12; refine (Check_any _ _ _ _ HR5.out.holds).mono ?_; rw [HC.out]; rintro e w' ⟨rfl, rfl⟩))
    go_ret
    exact ⟨rfl, HB5.out⟩
theorem law_BitsetOf (v : Value) (l : List Int) (w : World) (hv : Holds w (fun b => b < w.heap.size) 1 v l.length (l.map (Value.int .i64))) (_ : ∀ z ∈ l, -9223372036854775808 ≤ z ∧ z ≤ 9223372036854775807) (hT : Tab w) :
    Calls Tryd.prog 3 #[v] w fun e w' => e = .returned (.bool true) ∧ Below w.heap.size w w' := walk_BitsetOf v l w hv hT
end Go.Proofs.YtgbmhimllafljaaDoor
