/- The walk of BitsetLattice. -/
import Derived.Test.YtgbmhimllafljaaDoorSetStep
namespace Go.Proofs.YtgbmhimllafljaaDoor
open Go.ChangeShapes Go.WideShapes Go.ChangeAt Go.RowKit Go.Deep
theorem mem_meetL {a b : List Int} {x : Int} : x ∈ meetL a b ↔ x ∈ a ∧ x ∈ b := by
  unfold meetL hasL; rw [List.mem_filter]; simp
theorem mem_minusL {a b : List Int} {x : Int} : x ∈ minusL a b ↔ x ∈ a ∧ ¬ x ∈ b := by
  unfold minusL hasL; rw [List.mem_filter]; simp
theorem mem_unionL {a b : List Int} (hb : IsSet b) {x : Int} : x ∈ unionL a b ↔ x ∈ a ∨ x ∈ b := by
  unfold unionL
  rw [mem_foldl]
  constructor
  · rintro (h | h)
    · exact .inl h
    · exact .inr h.1
  · rintro (h | h)
    · exact .inl h
    · exact .inr ⟨h, hb.2 x h⟩
theorem IsSet.meet {a b : List Int} (h : IsSet a) : IsSet (meetL a b) := h.filter _
theorem IsSet.minus {a b : List Int} (h : IsSet a) : IsSet (minusL a b) := h.filter _
theorem set_eq {a b : List Int} (ha : IsSet a) (hb : IsSet b) (h : ∀ x, x ∈ a ↔ x ∈ b) : a = b := asc_eq ha.1 hb.1 h
theorem meet_absorb {a b : List Int} (ha : IsSet a) : meetL a (unionL a b) = a := set_eq ha.meet ha fun x => by
  rw [mem_meetL]
  exact ⟨fun h => h.1, fun h => ⟨h, mem_foldl.2 (.inl h)⟩⟩
theorem union_absorb {a b : List Int} (ha : IsSet a) : unionL a (meetL a b) = a := set_eq ha.union ha fun x => by
  rw [mem_unionL ha.meet, mem_meetL]
  exact ⟨fun h => by rcases h with h | h; exact h; exact h.1, fun h => .inl h⟩
theorem spread {a b c : List Int} (ha : IsSet a) (hc : IsSet c) : meetL a (unionL b c) = unionL (meetL a b) (meetL a c) := set_eq ha.meet ha.meet.union fun x => by
  rw [mem_meetL, mem_unionL hc, mem_unionL ha.meet, mem_meetL, mem_meetL]
  grind
theorem parts {a b : List Int} (ha : IsSet a) : unionL (minusL a b) (meetL a b) = a := set_eq ha.minus.union ha fun x => by
  rw [mem_unionL ha.meet, mem_meetL, mem_minusL]
  grind
theorem minus_meet (a b : List Int) : meetL (minusL a b) b = [] := List.eq_nil_iff_forall_not_mem.2 fun x hx => by
  rw [mem_meetL, mem_minusL] at hx
  exact hx.1.2 hx.2
theorem morgan {a b c : List Int} (ha : IsSet a) (hc : IsSet c) : minusL a (unionL b c) = minusL (minusL a b) c := set_eq ha.minus ha.minus.minus fun x => by
  rw [mem_minusL, mem_unionL hc, mem_minusL, mem_minusL]
  grind
theorem within_union {a b : List Int} (ha : IsSet a) (hb : IsSet b) : withinL a b = decide (unionL a b = b) := by
  rw [withinL_iff]
  by_cases h : unionL a b = b
  · rw [decide_eq_true h, List.all_eq_true]
    intro x hx
    have : x ∈ unionL a b := mem_foldl.2 (.inl hx)
    rw [h] at this
    simpa [hasL] using this
  · rw [decide_eq_false h, List.all_eq_false]
    by_cases h2 : ∃ x, x ∈ a ∧ ¬ x ∈ b
    · obtain ⟨x, h1, h2⟩ := h2
      exact ⟨x, h1, by simpa [hasL] using h2⟩
    · exact absurd (set_eq ha.union hb fun x => by rw [mem_unionL hb]; grind) h
set_option maxRecDepth 100000 in
set_option maxHeartbeats 4000000 in
theorem law_BitsetLattice (u : Value) (cs : List Int) (w : World) (hu : Holds w (fun b => b < w.heap.size) 1 u cs.length (cs.map (Value.int .u8))) (hcs : ∀ z ∈ cs, 0 ≤ z ∧ z ≤ 255) (hT : Tab w) :
    Calls Tryd.prog 7 #[u] w fun e w' => e = .returned (.bool true) ∧ Below w.heap.size w w' := by
  have HU := hide hu
  have HC := hide hcs
  have HT := hide hT
  clear hu hcs hT
  go_enter Tryd.func7, Tryd.ntmps7
  go_wp2_with fail
  refine (awake04 _ HT.out).mono ?_
  rintro e w1 ⟨rfl, hb⟩
  replace HU := hide ((HU.out.below hb (fun b h => h)).mono (S' := fun b => b < w1.heap.size) (fun b h => by have := hb.size; omega))
  have HBW := hide hb
  have hz1 := hb.size
  clear hb
  go_wp2_with fail
  refine (New_any u cs 180 _ HU.out HC.out (by omega)).mono ?_
  rintro e w2 ⟨rfl, hcd, hb⟩
  have HCD := hide hcd
  have hz2 := hcd.2.1
  replace HBW := hide (HBW.out.trans (hb.mono HBW.out.size))
  clear hb hcd HU HC
  go_wp2_with fail
  refine (set_any _ _ _ HCD.out).mono ?_
  rintro e w3 ⟨⟨vA, rfl, lA, hx, hs⟩, hcd, hk⟩
  replace HCD := hide hcd
  have hz3 : w2.heap.size ≤ w3.heap.size := hk.size
  replace HBW := hide (HBW.out.trans (hk.below (fun b hb => by omega) HBW.out.size))
  have HXA := hide hx
  have HA := hide (And.intro hx hs)
  clear hx hs hcd hk
  go_wp2_with fail
  refine (set_any _ _ _ HCD.out).mono ?_
  rintro e w4 ⟨⟨vB, rfl, lB, hx, hs⟩, hcd, hk⟩
  replace HCD := hide hcd
  have hz4 : w3.heap.size ≤ w4.heap.size := hk.size
  replace HBW := hide (HBW.out.trans (hk.below (fun b hb => by omega) HBW.out.size))
  replace HA := hide (And.intro (HXA.out.keep hk (fun b hb => by have := (HXA.out.lt b hb).1; omega)) HA.out.2)
  replace HXA := hide (HXA.out.keep hk (fun b hb => by have := (HXA.out.lt b hb).1; omega))
  have HXB := hide hx
  have HB := hide (And.intro hx hs)
  clear hx hs hcd hk
  go_wp2_with fail
  refine (set_any _ _ _ HCD.out).mono ?_
  rintro e w5 ⟨⟨vC, rfl, lC, hx, hs⟩, hcd, hk⟩
  replace HCD := hide hcd
  have hz5 : w4.heap.size ≤ w5.heap.size := hk.size
  replace HBW := hide (HBW.out.trans (hk.below (fun b hb => by omega) HBW.out.size))
  replace HA := hide (And.intro (HXA.out.keep hk (fun b hb => by have := (HXA.out.lt b hb).1; omega)) HA.out.2)
  replace HXA := hide (HXA.out.keep hk (fun b hb => by have := (HXA.out.lt b hb).1; omega))
  replace HB := hide (And.intro (HXB.out.keep hk (fun b hb => by have := (HXB.out.lt b hb).1; omega)) HB.out.2)
  replace HXB := hide (HXB.out.keep hk (fun b hb => by have := (HXB.out.lt b hb).1; omega))
  have HXC := hide hx
  have HC := hide (And.intro hx hs)
  clear hx hs hcd hk
  have HA := hide (SV.of HA.out.1 HA.out.2)
  have HB := hide (SV.of HB.out.1 HB.out.2)
  have HC := hide (SV.of HC.out.1 HC.out.2)
  clear HCD HXA HXB HXC
  go_wp2_with fail
  refine (sUnion HA.out HB.out (HT.out.below' HBW.out)).mono ?_
  rintro e w21 ⟨⟨v21, rfl, hr⟩, hb⟩
  replace HA := hide (HA.out.below hb)
  replace HB := hide (HB.out.below hb)
  replace HC := hide (HC.out.below hb)
  replace HBW := hide (HBW.out.trans (hb.mono HBW.out.size))
  have HR := hide hr
  clear hr hb
  go_wp2_with fail
  refine (sMeet HA.out HR.out (HT.out.below' HBW.out)).mono ?_
  rintro e w22 ⟨⟨v22, rfl, hr⟩, hb⟩
  replace HA := hide (HA.out.below hb)
  replace HB := hide (HB.out.below hb)
  replace HC := hide (HC.out.below hb)
  replace HR := hide (HR.out.below hb)
  replace HBW := hide (HBW.out.trans (hb.mono HBW.out.size))
  have HQ := hide hr
  clear hr hb
  go_wp2_with fail
  refine (sSameT HQ.out HA.out (meet_absorb HA.out.2)).mono ?_
  rintro e w23 ⟨rfl, hb⟩
  replace HA := hide (HA.out.below hb)
  replace HB := hide (HB.out.below hb)
  replace HC := hide (HC.out.below hb)
  replace HR := hide (HR.out.below hb)
  replace HQ := hide (HQ.out.below hb)
  replace HBW := hide (HBW.out.trans (hb.mono HBW.out.size))
  clear hb
  clear HR HQ
  go_wp2_with fail
  refine (sMeet HA.out HB.out (HT.out.below' HBW.out)).mono ?_
  rintro e w25 ⟨⟨v25, rfl, hr⟩, hb⟩
  replace HA := hide (HA.out.below hb)
  replace HB := hide (HB.out.below hb)
  replace HC := hide (HC.out.below hb)
  replace HBW := hide (HBW.out.trans (hb.mono HBW.out.size))
  have HR := hide hr
  clear hr hb
  go_wp2_with fail
  refine (sUnion HA.out HR.out (HT.out.below' HBW.out)).mono ?_
  rintro e w26 ⟨⟨v26, rfl, hr⟩, hb⟩
  replace HA := hide (HA.out.below hb)
  replace HB := hide (HB.out.below hb)
  replace HC := hide (HC.out.below hb)
  replace HR := hide (HR.out.below hb)
  replace HBW := hide (HBW.out.trans (hb.mono HBW.out.size))
  have HQ := hide hr
  clear hr hb
  go_wp2_with fail
  refine (sSameT HQ.out HA.out (union_absorb HA.out.2)).mono ?_
  rintro e w27 ⟨rfl, hb⟩
  replace HA := hide (HA.out.below hb)
  replace HB := hide (HB.out.below hb)
  replace HC := hide (HC.out.below hb)
  replace HR := hide (HR.out.below hb)
  replace HQ := hide (HQ.out.below hb)
  replace HBW := hide (HBW.out.trans (hb.mono HBW.out.size))
  clear hb
  clear HR HQ
  go_wp2_with fail
  refine (sUnion HB.out HC.out (HT.out.below' HBW.out)).mono ?_
  rintro e w29 ⟨⟨v29, rfl, hr⟩, hb⟩
  replace HA := hide (HA.out.below hb)
  replace HB := hide (HB.out.below hb)
  replace HC := hide (HC.out.below hb)
  replace HBW := hide (HBW.out.trans (hb.mono HBW.out.size))
  have HR := hide hr
  clear hr hb
  go_wp2_with fail
  refine (sMeet HA.out HR.out (HT.out.below' HBW.out)).mono ?_
  rintro e w30 ⟨⟨v30, rfl, hr⟩, hb⟩
  replace HA := hide (HA.out.below hb)
  replace HB := hide (HB.out.below hb)
  replace HC := hide (HC.out.below hb)
  replace HR := hide (HR.out.below hb)
  replace HBW := hide (HBW.out.trans (hb.mono HBW.out.size))
  have HQ := hide hr
  clear hr hb
  go_wp2_with fail
  refine (sMeet HA.out HB.out (HT.out.below' HBW.out)).mono ?_
  rintro e w31 ⟨⟨v31, rfl, hr⟩, hb⟩
  replace HA := hide (HA.out.below hb)
  replace HB := hide (HB.out.below hb)
  replace HC := hide (HC.out.below hb)
  replace HR := hide (HR.out.below hb)
  replace HQ := hide (HQ.out.below hb)
  replace HBW := hide (HBW.out.trans (hb.mono HBW.out.size))
  have HU := hide hr
  clear hr hb
  go_wp2_with fail
  refine (sMeet HA.out HC.out (HT.out.below' HBW.out)).mono ?_
  rintro e w32 ⟨⟨v32, rfl, hr⟩, hb⟩
  replace HA := hide (HA.out.below hb)
  replace HB := hide (HB.out.below hb)
  replace HC := hide (HC.out.below hb)
  replace HR := hide (HR.out.below hb)
  replace HQ := hide (HQ.out.below hb)
  replace HU := hide (HU.out.below hb)
  replace HBW := hide (HBW.out.trans (hb.mono HBW.out.size))
  have HV := hide hr
  clear hr hb
  go_wp2_with fail
  refine (sUnion HU.out HV.out (HT.out.below' HBW.out)).mono ?_
  rintro e w33 ⟨⟨v33, rfl, hr⟩, hb⟩
  replace HA := hide (HA.out.below hb)
  replace HB := hide (HB.out.below hb)
  replace HC := hide (HC.out.below hb)
  replace HR := hide (HR.out.below hb)
  replace HQ := hide (HQ.out.below hb)
  replace HU := hide (HU.out.below hb)
  replace HV := hide (HV.out.below hb)
  replace HBW := hide (HBW.out.trans (hb.mono HBW.out.size))
  have HX := hide hr
  clear hr hb
  go_wp2_with fail
  refine (sSameT HQ.out HX.out (spread HA.out.2 HC.out.2)).mono ?_
  rintro e w34 ⟨rfl, hb⟩
  replace HA := hide (HA.out.below hb)
  replace HB := hide (HB.out.below hb)
  replace HC := hide (HC.out.below hb)
  replace HR := hide (HR.out.below hb)
  replace HQ := hide (HQ.out.below hb)
  replace HU := hide (HU.out.below hb)
  replace HV := hide (HV.out.below hb)
  replace HX := hide (HX.out.below hb)
  replace HBW := hide (HBW.out.trans (hb.mono HBW.out.size))
  clear hb
  clear HR HQ HU HV HX
  go_wp2_with fail
  refine (sMinus HA.out HB.out (HT.out.below' HBW.out)).mono ?_
  rintro e w36 ⟨⟨v36, rfl, hr⟩, hb⟩
  replace HA := hide (HA.out.below hb)
  replace HB := hide (HB.out.below hb)
  replace HC := hide (HC.out.below hb)
  replace HBW := hide (HBW.out.trans (hb.mono HBW.out.size))
  have HR := hide hr
  clear hr hb
  go_wp2_with fail
  refine (sMeet HA.out HB.out (HT.out.below' HBW.out)).mono ?_
  rintro e w37 ⟨⟨v37, rfl, hr⟩, hb⟩
  replace HA := hide (HA.out.below hb)
  replace HB := hide (HB.out.below hb)
  replace HC := hide (HC.out.below hb)
  replace HR := hide (HR.out.below hb)
  replace HBW := hide (HBW.out.trans (hb.mono HBW.out.size))
  have HQ := hide hr
  clear hr hb
  go_wp2_with fail
  refine (sUnion HR.out HQ.out (HT.out.below' HBW.out)).mono ?_
  rintro e w38 ⟨⟨v38, rfl, hr⟩, hb⟩
  replace HA := hide (HA.out.below hb)
  replace HB := hide (HB.out.below hb)
  replace HC := hide (HC.out.below hb)
  replace HR := hide (HR.out.below hb)
  replace HQ := hide (HQ.out.below hb)
  replace HBW := hide (HBW.out.trans (hb.mono HBW.out.size))
  have HU := hide hr
  clear hr hb
  go_wp2_with fail
  refine (sSameT HU.out HA.out (parts HA.out.2)).mono ?_
  rintro e w39 ⟨rfl, hb⟩
  replace HA := hide (HA.out.below hb)
  replace HB := hide (HB.out.below hb)
  replace HC := hide (HC.out.below hb)
  replace HR := hide (HR.out.below hb)
  replace HQ := hide (HQ.out.below hb)
  replace HU := hide (HU.out.below hb)
  replace HBW := hide (HBW.out.trans (hb.mono HBW.out.size))
  clear hb
  clear HR HQ HU
  go_wp2_with fail
  refine (sMinus HA.out HB.out (HT.out.below' HBW.out)).mono ?_
  rintro e w41 ⟨⟨v41, rfl, hr⟩, hb⟩
  replace HA := hide (HA.out.below hb)
  replace HB := hide (HB.out.below hb)
  replace HC := hide (HC.out.below hb)
  replace HBW := hide (HBW.out.trans (hb.mono HBW.out.size))
  have HR := hide hr
  clear hr hb
  go_wp2_with fail
  refine (sMeet HR.out HB.out (HT.out.below' HBW.out)).mono ?_
  rintro e w42 ⟨⟨v42, rfl, hr⟩, hb⟩
  replace HA := hide (HA.out.below hb)
  replace HB := hide (HB.out.below hb)
  replace HC := hide (HC.out.below hb)
  replace HR := hide (HR.out.below hb)
  replace HBW := hide (HBW.out.trans (hb.mono HBW.out.size))
  have HQ := hide hr
  clear hr hb
  have hq43 := HQ.out.1.holds
  rw [minus_meet _ _] at hq43
  obtain ⟨A43, c43, rfl, hc43, hd43, _, _⟩ := hq43
  clear HR HQ
  go_wp2_with fail
  refine (sUnion HB.out HC.out (HT.out.below' HBW.out)).mono ?_
  rintro e w45 ⟨⟨v45, rfl, hr⟩, hb⟩
  replace HA := hide (HA.out.below hb)
  replace HB := hide (HB.out.below hb)
  replace HC := hide (HC.out.below hb)
  replace HBW := hide (HBW.out.trans (hb.mono HBW.out.size))
  have HR := hide hr
  clear hr hb
  go_wp2_with fail
  refine (sMinus HA.out HR.out (HT.out.below' HBW.out)).mono ?_
  rintro e w46 ⟨⟨v46, rfl, hr⟩, hb⟩
  replace HA := hide (HA.out.below hb)
  replace HB := hide (HB.out.below hb)
  replace HC := hide (HC.out.below hb)
  replace HR := hide (HR.out.below hb)
  replace HBW := hide (HBW.out.trans (hb.mono HBW.out.size))
  have HQ := hide hr
  clear hr hb
  go_wp2_with fail
  refine (sMinus HA.out HB.out (HT.out.below' HBW.out)).mono ?_
  rintro e w47 ⟨⟨v47, rfl, hr⟩, hb⟩
  replace HA := hide (HA.out.below hb)
  replace HB := hide (HB.out.below hb)
  replace HC := hide (HC.out.below hb)
  replace HR := hide (HR.out.below hb)
  replace HQ := hide (HQ.out.below hb)
  replace HBW := hide (HBW.out.trans (hb.mono HBW.out.size))
  have HU := hide hr
  clear hr hb
  go_wp2_with fail
  refine (sMinus HU.out HC.out (HT.out.below' HBW.out)).mono ?_
  rintro e w48 ⟨⟨v48, rfl, hr⟩, hb⟩
  replace HA := hide (HA.out.below hb)
  replace HB := hide (HB.out.below hb)
  replace HC := hide (HC.out.below hb)
  replace HR := hide (HR.out.below hb)
  replace HQ := hide (HQ.out.below hb)
  replace HU := hide (HU.out.below hb)
  replace HBW := hide (HBW.out.trans (hb.mono HBW.out.size))
  have HV := hide hr
  clear hr hb
  go_wp2_with fail
  refine (sSameT HQ.out HV.out (morgan HA.out.2 HC.out.2)).mono ?_
  rintro e w49 ⟨rfl, hb⟩
  replace HA := hide (HA.out.below hb)
  replace HB := hide (HB.out.below hb)
  replace HC := hide (HC.out.below hb)
  replace HR := hide (HR.out.below hb)
  replace HQ := hide (HQ.out.below hb)
  replace HU := hide (HU.out.below hb)
  replace HV := hide (HV.out.below hb)
  replace HBW := hide (HBW.out.trans (hb.mono HBW.out.size))
  clear hb
  clear HR HQ HU HV
  go_wp2_with fail
  refine (sWithin HA.out HB.out).mono ?_
  rintro e w51 ⟨rfl, hb⟩
  replace HA := hide (HA.out.below hb)
  replace HB := hide (HB.out.below hb)
  replace HC := hide (HC.out.below hb)
  replace HBW := hide (HBW.out.trans (hb.mono HBW.out.size))
  clear hb
  go_wp2_with fail
  refine (sUnion HA.out HB.out (HT.out.below' HBW.out)).mono ?_
  rintro e w52 ⟨⟨v52, rfl, hr⟩, hb⟩
  replace HA := hide (HA.out.below hb)
  replace HB := hide (HB.out.below hb)
  replace HC := hide (HC.out.below hb)
  replace HBW := hide (HBW.out.trans (hb.mono HBW.out.size))
  have HR := hide hr
  clear hr hb
  go_wp2_with fail
  refine (sSame HR.out HB.out).mono ?_
  rw [← within_union HA.out.2 HB.out.2]
  rintro e w53 ⟨rfl, hb⟩
  replace HA := hide (HA.out.below hb)
  replace HB := hide (HB.out.below hb)
  replace HC := hide (HC.out.below hb)
  replace HR := hide (HR.out.below hb)
  replace HBW := hide (HBW.out.trans (hb.mono HBW.out.size))
  clear hb
  go_wp2
  go_ret
  exact ⟨rfl, HBW.out⟩
end Go.Proofs.YtgbmhimllafljaaDoor
