/- The walk of BitsetOperations. -/
import Derived.Test.YtgbmhimllafljaaDoorSetStep
namespace Go.Proofs.YtgbmhimllafljaaDoor
open Go.ChangeShapes Go.WideShapes Go.ChangeAt Go.RowKit Go.Deep
theorem withinL_meet (a b : List Int) : withinL (meetL a b) b = true := by
  rw [withinL_iff, List.all_eq_true]
  intro x hx
  exact (List.mem_filter.1 hx).2
set_option maxRecDepth 100000 in
set_option maxHeartbeats 4000000 in
theorem law_BitsetOperations (u : Value) (cs : List Int) (w : World) (hu : Holds w (fun b => b < w.heap.size) 1 u cs.length (cs.map (Value.int .u8))) (hcs : ∀ z ∈ cs, 0 ≤ z ∧ z ≤ 255) (hT : Tab w) :
    Calls Tryd.prog 6 #[u] w fun e w' => e = .returned (.bool true) ∧ Below w.heap.size w w' := by
  have HU := hide hu
  have HC := hide hcs
  have HT := hide hT
  clear hu hcs hT
  go_enter Tryd.func6, Tryd.ntmps6
  go_wp2_with fail
  refine (awake04 _ HT.out).mono ?_
  rintro e w1 ⟨rfl, hb⟩
  replace HU := hide ((HU.out.below hb (fun b h => h)).mono (S' := fun b => b < w1.heap.size) (fun b h => by have := hb.size; omega))
  have HBW := hide hb
  have hz1 := hb.size
  clear hb
  go_wp2_with fail
  refine (New_any u cs 120 _ HU.out HC.out (by omega)).mono ?_
  rintro e w2 ⟨rfl, hcd, hb⟩
  have HCD := hide hcd
  have hz2 := hcd.2.1
  replace HBW := hide (HBW.out.trans (hb.mono HBW.out.size))
  clear hb hcd HU HC
  go_wp2_with fail
  refine (set_any _ _ _ HCD.out).mono ?_
  rintro e w3 ⟨⟨vA, rfl, lA, hx, hs⟩, hcd, hk⟩
  replace HCD := hide hcd
  have hz3 : w2.heap.size ≤ w3.heap.size := hk.size
  replace HBW := hide (HBW.out.trans (hk.below (fun b hb => by omega) HBW.out.size))
  have HXA := hide hx
  have HA := hide (And.intro hx hs)
  clear hx hs hcd hk
  go_wp2_with fail
  refine (set_any _ _ _ HCD.out).mono ?_
  rintro e w4 ⟨⟨vB, rfl, lB, hx, hs⟩, hcd, hk⟩
  replace HCD := hide hcd
  have hz4 : w3.heap.size ≤ w4.heap.size := hk.size
  replace HBW := hide (HBW.out.trans (hk.below (fun b hb => by omega) HBW.out.size))
  replace HA := hide (And.intro (HXA.out.keep hk (fun b hb => by have := (HXA.out.lt b hb).1; omega)) HA.out.2)
  replace HXA := hide (HXA.out.keep hk (fun b hb => by have := (HXA.out.lt b hb).1; omega))
  have HXB := hide hx
  have HB := hide (And.intro hx hs)
  clear hx hs hcd hk
  have HA := hide (SV.of HA.out.1 HA.out.2)
  have HB := hide (SV.of HB.out.1 HB.out.2)
  clear HCD HXA HXB
  go_wp2_with fail
  refine (sUnion HA.out HB.out (HT.out.below' HBW.out)).mono ?_
  rintro e w21 ⟨⟨v21, rfl, hr⟩, hb⟩
  replace HA := hide (HA.out.below hb)
  replace HB := hide (HB.out.below hb)
  replace HBW := hide (HBW.out.trans (hb.mono HBW.out.size))
  have HR := hide hr
  clear hr hb
  go_wp2_with fail
  refine (tUnion HA.out HB.out).mono ?_
  rintro e w22 ⟨⟨v22, rfl, hr⟩, hb⟩
  replace HA := hide (HA.out.below hb)
  replace HB := hide (HB.out.below hb)
  replace HR := hide (HR.out.below hb)
  replace HBW := hide (HBW.out.trans (hb.mono HBW.out.size))
  have HQ := hide hr
  clear hr hb
  go_wp2_with fail
  refine (sSameT HR.out HQ.out rfl).mono ?_
  rintro e w23 ⟨rfl, hb⟩
  replace HA := hide (HA.out.below hb)
  replace HB := hide (HB.out.below hb)
  replace HR := hide (HR.out.below hb)
  replace HQ := hide (HQ.out.below hb)
  replace HBW := hide (HBW.out.trans (hb.mono HBW.out.size))
  clear hb
  clear HR HQ
  go_wp2_with fail
  refine (sMeet HA.out HB.out (HT.out.below' HBW.out)).mono ?_
  rintro e w25 ⟨⟨v25, rfl, hr⟩, hb⟩
  replace HA := hide (HA.out.below hb)
  replace HB := hide (HB.out.below hb)
  replace HBW := hide (HBW.out.trans (hb.mono HBW.out.size))
  have HR := hide hr
  clear hr hb
  go_wp2_with fail
  refine (tMeet HA.out HB.out).mono ?_
  rintro e w26 ⟨⟨v26, rfl, hr⟩, hb⟩
  replace HA := hide (HA.out.below hb)
  replace HB := hide (HB.out.below hb)
  replace HR := hide (HR.out.below hb)
  replace HBW := hide (HBW.out.trans (hb.mono HBW.out.size))
  have HQ := hide hr
  clear hr hb
  go_wp2_with fail
  refine (sSameT HR.out HQ.out rfl).mono ?_
  rintro e w27 ⟨rfl, hb⟩
  replace HA := hide (HA.out.below hb)
  replace HB := hide (HB.out.below hb)
  replace HR := hide (HR.out.below hb)
  replace HQ := hide (HQ.out.below hb)
  replace HBW := hide (HBW.out.trans (hb.mono HBW.out.size))
  clear hb
  clear HR HQ
  go_wp2_with fail
  refine (sMinus HA.out HB.out (HT.out.below' HBW.out)).mono ?_
  rintro e w29 ⟨⟨v29, rfl, hr⟩, hb⟩
  replace HA := hide (HA.out.below hb)
  replace HB := hide (HB.out.below hb)
  replace HBW := hide (HBW.out.trans (hb.mono HBW.out.size))
  have HR := hide hr
  clear hr hb
  go_wp2_with fail
  refine (tMinus HA.out HB.out).mono ?_
  rintro e w30 ⟨⟨v30, rfl, hr⟩, hb⟩
  replace HA := hide (HA.out.below hb)
  replace HB := hide (HB.out.below hb)
  replace HR := hide (HR.out.below hb)
  replace HBW := hide (HBW.out.trans (hb.mono HBW.out.size))
  have HQ := hide hr
  clear hr hb
  go_wp2_with fail
  refine (sSameT HR.out HQ.out rfl).mono ?_
  rintro e w31 ⟨rfl, hb⟩
  replace HA := hide (HA.out.below hb)
  replace HB := hide (HB.out.below hb)
  replace HR := hide (HR.out.below hb)
  replace HQ := hide (HQ.out.below hb)
  replace HBW := hide (HBW.out.trans (hb.mono HBW.out.size))
  clear hb
  clear HR HQ
  go_wp2_with fail
  refine (sWithin HA.out HB.out).mono ?_
  rintro e w33 ⟨rfl, hb⟩
  replace HA := hide (HA.out.below hb)
  replace HB := hide (HB.out.below hb)
  replace HBW := hide (HBW.out.trans (hb.mono HBW.out.size))
  clear hb
  go_wp2_with fail
  refine (tWithin HA.out HB.out).mono ?_
  rintro e w34 ⟨rfl, hb⟩
  replace HA := hide (HA.out.below hb)
  replace HB := hide (HB.out.below hb)
  replace HBW := hide (HBW.out.trans (hb.mono HBW.out.size))
  clear hb
  go_wp2_with fail
  refine (sMeet HA.out HB.out (HT.out.below' HBW.out)).mono ?_
  rintro e w35 ⟨⟨v35, rfl, hr⟩, hb⟩
  replace HA := hide (HA.out.below hb)
  replace HB := hide (HB.out.below hb)
  replace HBW := hide (HBW.out.trans (hb.mono HBW.out.size))
  have HR := hide hr
  clear hr hb
  go_wp2_with fail
  refine (sWithin HR.out HB.out).mono ?_
  rw [withinL_meet _ _]
  rintro e w36 ⟨rfl, hb⟩
  replace HA := hide (HA.out.below hb)
  replace HB := hide (HB.out.below hb)
  replace HR := hide (HR.out.below hb)
  replace HBW := hide (HBW.out.trans (hb.mono HBW.out.size))
  clear hb
  go_wp2
  go_ret
  exact ⟨rfl, HBW.out⟩
end Go.Proofs.YtgbmhimllafljaaDoor
