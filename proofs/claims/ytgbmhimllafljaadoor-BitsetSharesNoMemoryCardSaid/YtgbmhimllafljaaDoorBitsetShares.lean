/- The walk of BitsetSharesNoMemory. -/
import Derived.Test.YtgbmhimllafljaaDoorSetStep
namespace Go.Proofs.YtgbmhimllafljaaDoor
open Go.ChangeShapes Go.WideShapes Go.ChangeAt Go.RowKit Go.Deep
/-- v is a row of n cells of its own, made at B or later. -/
def RowN (w : World) (B : Nat) (v : Value) (n : Nat) : Prop := ∃ xs, w.ownsRow B 3 1 v n xs
theorem RowN.of {w : World} {B B' : Nat} {v : Value} {l : List Int} (h : Row w B' v l) (hB : B ≤ B') : RowN w B v l.length := ⟨_, h.lower hB⟩
theorem RowN.below {w w' : World} {B n : Nat} {v : Value} (h : RowN w B v n) (hb : Below w.heap.size w w') : RowN w' B v n := by
  obtain ⟨xs, h⟩ := h
  refine ⟨xs, h.1, ?_⟩
  rcases h.2 with h2 | ⟨g, cap, cur, hv, hg, hh, r⟩
  · exact .inl h2
  · have hlt : g < w.heap.size := by
      rcases Nat.lt_or_ge g w.heap.size with hlt | hge
      · exact hlt
      · rw [Array.getElem?_eq_none hge] at hh; cases hh
    exact .inr ⟨g, cap, cur, hv, hg, by rw [hb.block g hlt]; exact hh, r⟩
theorem RowN.set {w : World} {B n : Nat} {v : Value} (h : RowN w B v n) (g i : Nat) (u : Value) : RowN (w.setCell ⟨g, i, none⟩ u) B v n := by
  obtain ⟨xs, h1, h2⟩ := h
  rcases h2 with ⟨rfl, rfl⟩ | ⟨g', cap, cur, rfl, hg, hh, r⟩
  · exact ⟨xs, h1, .inl ⟨rfl, rfl⟩⟩
  · by_cases e : g' = g
    · subst e
      exact ⟨_, (World.ownsRow.stored ⟨h1, .inr ⟨g', cap, cur, rfl, hg, hh, r⟩⟩ i u).1⟩
    · exact ⟨xs, h1, .inr ⟨g', cap, cur, rfl, hg, by rw [heap_setCell_other _ _ _ _ e]; exact hh, r⟩⟩
theorem RowN.form {w : World} {B n : Nat} {v : Value} (h : RowN w B v n) : ∃ A c, v = .slice A n c := by
  obtain ⟨xs, _, h2⟩ := h
  rcases h2 with ⟨rfl, rfl⟩ | ⟨g', cap, cur, rfl, _⟩
  · exact ⟨_, _, rfl⟩
  · exact ⟨_, _, rfl⟩
def Rows7 (w : World) (B T : Nat) : Prop := ∀ j, j < 7 → ∃ v n, w.cell? ⟨T, j, none⟩ = some v ∧ RowN w B v n ∧ ∀ b, v.ownBlock = some b → b < T
theorem Rows7.set {w : World} {B T g : Nat} (h : Rows7 w B T) (hg : g < T) (i : Nat) (u : Value) : Rows7 (w.setCell ⟨g, i, none⟩ u) B T := fun j hj => by
  obtain ⟨v, n, h1, h2, h3⟩ := h j hj
  refine ⟨v, n, ?_, h2.set g i u, h3⟩
  have hne : (⟨g, i, none⟩ : Addr) ≠ ⟨T, j, none⟩ := by intro e; injection e with e; omega
  exact (World.cell?_setCell_other w _ _ u hne).trans h1
theorem below_set {B : Nat} {a w : World} {g i : Nat} {u : Value} (h : Below B a w) (hg : B ≤ g) : Below B a (w.setCell ⟨g, i, none⟩ u) :=
  ⟨h.os, h.tape, h.output, by simpa using h.size, fun b hb => by rw [heap_setCell_other _ _ _ _ (by show b ≠ g; omega)]; exact h.block b hb⟩
theorem Row.own_lt {w : World} {B : Nat} {v : Value} {l : List Int} (h : Row w B v l) : ∀ b, v.ownBlock = some b → b < w.heap.size := fun b hb => (h.lt b hb).2
set_option maxRecDepth 100000 in
set_option maxHeartbeats 4000000 in
theorem law_BitsetSharesNoMemory (u : Value) (cs : List Int) (n : Int) (w : World) (hu : Holds w (fun b => b < w.heap.size) 1 u cs.length (cs.map (Value.int .u8))) (hcs : ∀ z ∈ cs, 0 ≤ z ∧ z ≤ 255) (_ : -9223372036854775808 ≤ n ∧ n ≤ 9223372036854775807) (hT : Tab w) :
    Calls Tryd.prog 5 #[u, .int .i64 n] w fun e w' => e = .returned (.bool true) ∧ Below w.heap.size w w' := by
  have HU := hide hu
  have HC := hide hcs
  have HT := hide hT
  clear hu hcs hT
  go_enter Tryd.func5, Tryd.ntmps5
  go_wp2_with fail
  refine (awake04 _ HT.out).mono ?_
  rintro e w1 ⟨rfl, hb⟩
  replace HU := hide ((HU.out.below hb (fun b h => h)).mono (S' := fun b => b < w1.heap.size) (fun b h => by have := hb.size; omega))
  have HBW := hide hb
  have hz1 := hb.size
  clear hb
  go_wp2_with fail
  refine (New_any u cs 120 _ HU.out HC.out (by omega)).mono ?_
  rintro e w2 ⟨rfl, hcd, hb⟩
  have HCD := hide hcd
  have hz2 := hcd.2.1
  replace HBW := hide (HBW.out.trans (hb.mono HBW.out.size))
  clear hb hcd HU HC
  go_wp2_with fail
  refine (set_any _ _ _ HCD.out).mono ?_
  rintro e w3 ⟨⟨vA, rfl, lA, hx, hs⟩, hcd, hk⟩
  replace HCD := hide hcd
  have hz3 : w2.heap.size ≤ w3.heap.size := hk.size
  replace HBW := hide (HBW.out.trans (hk.below (fun b hb => by omega) HBW.out.size))
  have HXA := hide hx
  have HA := hide (And.intro hx hs)
  clear hx hs hcd hk
  go_wp2_with fail
  refine (set_any _ _ _ HCD.out).mono ?_
  rintro e w4 ⟨⟨vB, rfl, lB, hx, hs⟩, hcd, hk⟩
  replace HCD := hide hcd
  have hz4 : w3.heap.size ≤ w4.heap.size := hk.size
  replace HBW := hide (HBW.out.trans (hk.below (fun b hb => by omega) HBW.out.size))
  replace HA := hide (And.intro (HXA.out.keep hk (fun b hb => by have := (HXA.out.lt b hb).1; omega)) HA.out.2)
  replace HXA := hide (HXA.out.keep hk (fun b hb => by have := (HXA.out.lt b hb).1; omega))
  have HXB := hide hx
  have HB := hide (And.intro hx hs)
  clear hx hs hcd hk
  have HA := hide (SV.of HA.out.1 HA.out.2)
  have HB := hide (SV.of HB.out.1 HB.out.2)
  clear HCD HXA HXB
  go_wp2_with (at_builtin; refine app_row rfl _ _ rfl _ w4.heap.size _ _ _ _ _ rfl rfl (Row.nil _ _) HA.out.1 (by have := HA.out.len; simp; omega) (Nat.le_refl _) ?_)
  rintro vXA w5 hr hkp
  have hb : Below w4.heap.size w4 w5 := below_app (Below.refl _ _) (Row.nil _ _) hkp
  replace HA := hide (HA.out.below hb)
  replace HB := hide (HB.out.below hb)
  have HXA := hide (SV.of hr HA.out.2)
  replace HBW := hide (HBW.out.trans (hb.mono HBW.out.size))
  have hz5 := hb.size
  clear hr hkp hb
  go_wp2_with (at_builtin; refine app_row rfl _ _ rfl _ w5.heap.size _ _ _ _ _ rfl rfl (Row.nil _ _) HB.out.1 (by have := HB.out.len; simp; omega) (Nat.le_refl _) ?_)
  rintro vXB w6 hr hkp
  have hb : Below w5.heap.size w5 w6 := below_app (Below.refl _ _) (Row.nil _ _) hkp
  replace HA := hide (HA.out.below hb)
  replace HB := hide (HB.out.below hb)
  replace HXA := hide (HXA.out.below hb)
  have HXB := hide (SV.of hr HB.out.2)
  replace HBW := hide (HBW.out.trans (hb.mono HBW.out.size))
  have hz6 := hb.size
  clear hr hkp hb
  have HBW6 := HBW
  have HS : Hid (Below w6.heap.size w6 w6) := hide (Below.refl _ _)
  have HA6 := HA
  have HB6 := HB
  have HXA6 := HXA
  have HXB6 := HXB
  clear HXA HXB HBW
  go_wp2_with fail
  refine (Add_any _ _ n _ HA.out.holds (HT.out.below' (HBW6.out.trans (HS.out.mono HBW6.out.size)))).mono ?_
  rintro e w7 ⟨⟨r0, rfl, hr⟩, hb⟩
  replace HA := hide (HA.out.below hb)
  replace HB := hide (HB.out.below hb)
  have HR0 := hide (RowN.of hr HS.out.size)
  have HL0 := hide hr.own_lt
  replace HS := hide (HS.out.trans (hb.mono HS.out.size))
  clear hr hb
  go_wp2_with fail
  refine (Remove_any _ _ n _ HA.out.holds (HT.out.below' (HBW6.out.trans (HS.out.mono HBW6.out.size)))).mono ?_
  rintro e w8 ⟨⟨r1, rfl, hr⟩, hb⟩
  replace HA := hide (HA.out.below hb)
  replace HB := hide (HB.out.below hb)
  replace HR0 := hide (HR0.out.below hb)
  replace HL0 : Hid (∀ b, r0.ownBlock = some b → b < w8.heap.size) := hide (fun b h => Nat.lt_of_lt_of_le (HL0.out b h) hb.size)
  have HR1 := hide (RowN.of hr HS.out.size)
  have HL1 := hide hr.own_lt
  replace HS := hide (HS.out.trans (hb.mono HS.out.size))
  clear hr hb
  go_wp2_with fail
  refine (Union_any _ _ _ _ _ HA.out.holds HB.out.holds (HT.out.below' (HBW6.out.trans (HS.out.mono HBW6.out.size)))).mono ?_
  rintro e w9 ⟨⟨r2, rfl, hr⟩, hb⟩
  replace HA := hide (HA.out.below hb)
  replace HB := hide (HB.out.below hb)
  replace HR0 := hide (HR0.out.below hb)
  replace HL0 : Hid (∀ b, r0.ownBlock = some b → b < w9.heap.size) := hide (fun b h => Nat.lt_of_lt_of_le (HL0.out b h) hb.size)
  replace HR1 := hide (HR1.out.below hb)
  replace HL1 : Hid (∀ b, r1.ownBlock = some b → b < w9.heap.size) := hide (fun b h => Nat.lt_of_lt_of_le (HL1.out b h) hb.size)
  have HR2 := hide (RowN.of hr HS.out.size)
  have HL2 := hide hr.own_lt
  replace HS := hide (HS.out.trans (hb.mono HS.out.size))
  clear hr hb
  go_wp2_with fail
  refine (Union_any _ _ _ [] _ HB.out.holds (Row.nil _ 0).holdsLt (HT.out.below' (HBW6.out.trans (HS.out.mono HBW6.out.size)))).mono ?_
  rintro e w10 ⟨⟨r3, rfl, hr⟩, hb⟩
  replace HA := hide (HA.out.below hb)
  replace HB := hide (HB.out.below hb)
  replace HR0 := hide (HR0.out.below hb)
  replace HL0 : Hid (∀ b, r0.ownBlock = some b → b < w10.heap.size) := hide (fun b h => Nat.lt_of_lt_of_le (HL0.out b h) hb.size)
  replace HR1 := hide (HR1.out.below hb)
  replace HL1 : Hid (∀ b, r1.ownBlock = some b → b < w10.heap.size) := hide (fun b h => Nat.lt_of_lt_of_le (HL1.out b h) hb.size)
  replace HR2 := hide (HR2.out.below hb)
  replace HL2 : Hid (∀ b, r2.ownBlock = some b → b < w10.heap.size) := hide (fun b h => Nat.lt_of_lt_of_le (HL2.out b h) hb.size)
  have HR3 := hide (RowN.of hr HS.out.size)
  have HL3 := hide hr.own_lt
  replace HS := hide (HS.out.trans (hb.mono HS.out.size))
  clear hr hb
  go_wp2_with fail
  refine (Meet_any _ _ _ _ _ HA.out.holds HA.out.holds (HT.out.below' (HBW6.out.trans (HS.out.mono HBW6.out.size)))).mono ?_
  rintro e w11 ⟨⟨r4, rfl, hr⟩, hb⟩
  replace HA := hide (HA.out.below hb)
  replace HB := hide (HB.out.below hb)
  replace HR0 := hide (HR0.out.below hb)
  replace HL0 : Hid (∀ b, r0.ownBlock = some b → b < w11.heap.size) := hide (fun b h => Nat.lt_of_lt_of_le (HL0.out b h) hb.size)
  replace HR1 := hide (HR1.out.below hb)
  replace HL1 : Hid (∀ b, r1.ownBlock = some b → b < w11.heap.size) := hide (fun b h => Nat.lt_of_lt_of_le (HL1.out b h) hb.size)
  replace HR2 := hide (HR2.out.below hb)
  replace HL2 : Hid (∀ b, r2.ownBlock = some b → b < w11.heap.size) := hide (fun b h => Nat.lt_of_lt_of_le (HL2.out b h) hb.size)
  replace HR3 := hide (HR3.out.below hb)
  replace HL3 : Hid (∀ b, r3.ownBlock = some b → b < w11.heap.size) := hide (fun b h => Nat.lt_of_lt_of_le (HL3.out b h) hb.size)
  have HR4 := hide (RowN.of hr HS.out.size)
  have HL4 := hide hr.own_lt
  replace HS := hide (HS.out.trans (hb.mono HS.out.size))
  clear hr hb
  go_wp2_with fail
  refine (Minus_any _ _ _ [] _ HA.out.holds (Row.nil _ 0).holdsLt (HT.out.below' (HBW6.out.trans (HS.out.mono HBW6.out.size)))).mono ?_
  rintro e w12 ⟨⟨r5, rfl, hr⟩, hb⟩
  replace HA := hide (HA.out.below hb)
  replace HB := hide (HB.out.below hb)
  replace HR0 := hide (HR0.out.below hb)
  replace HL0 : Hid (∀ b, r0.ownBlock = some b → b < w12.heap.size) := hide (fun b h => Nat.lt_of_lt_of_le (HL0.out b h) hb.size)
  replace HR1 := hide (HR1.out.below hb)
  replace HL1 : Hid (∀ b, r1.ownBlock = some b → b < w12.heap.size) := hide (fun b h => Nat.lt_of_lt_of_le (HL1.out b h) hb.size)
  replace HR2 := hide (HR2.out.below hb)
  replace HL2 : Hid (∀ b, r2.ownBlock = some b → b < w12.heap.size) := hide (fun b h => Nat.lt_of_lt_of_le (HL2.out b h) hb.size)
  replace HR3 := hide (HR3.out.below hb)
  replace HL3 : Hid (∀ b, r3.ownBlock = some b → b < w12.heap.size) := hide (fun b h => Nat.lt_of_lt_of_le (HL3.out b h) hb.size)
  replace HR4 := hide (HR4.out.below hb)
  replace HL4 : Hid (∀ b, r4.ownBlock = some b → b < w12.heap.size) := hide (fun b h => Nat.lt_of_lt_of_le (HL4.out b h) hb.size)
  have HR5 := hide (RowN.of hr HS.out.size)
  have HL5 := hide hr.own_lt
  replace HS := hide (HS.out.trans (hb.mono HS.out.size))
  clear hr hb
  go_wp2_with fail
  refine (Of_any _ _ _ HA.out.holds (HT.out.below' (HBW6.out.trans (HS.out.mono HBW6.out.size)))).mono ?_
  rintro e w13 ⟨⟨r6, rfl, hr⟩, hb⟩
  replace HA := hide (HA.out.below hb)
  replace HB := hide (HB.out.below hb)
  replace HR0 := hide (HR0.out.below hb)
  replace HL0 : Hid (∀ b, r0.ownBlock = some b → b < w13.heap.size) := hide (fun b h => Nat.lt_of_lt_of_le (HL0.out b h) hb.size)
  replace HR1 := hide (HR1.out.below hb)
  replace HL1 : Hid (∀ b, r1.ownBlock = some b → b < w13.heap.size) := hide (fun b h => Nat.lt_of_lt_of_le (HL1.out b h) hb.size)
  replace HR2 := hide (HR2.out.below hb)
  replace HL2 : Hid (∀ b, r2.ownBlock = some b → b < w13.heap.size) := hide (fun b h => Nat.lt_of_lt_of_le (HL2.out b h) hb.size)
  replace HR3 := hide (HR3.out.below hb)
  replace HL3 : Hid (∀ b, r3.ownBlock = some b → b < w13.heap.size) := hide (fun b h => Nat.lt_of_lt_of_le (HL3.out b h) hb.size)
  replace HR4 := hide (HR4.out.below hb)
  replace HL4 : Hid (∀ b, r4.ownBlock = some b → b < w13.heap.size) := hide (fun b h => Nat.lt_of_lt_of_le (HL4.out b h) hb.size)
  replace HR5 := hide (HR5.out.below hb)
  replace HL5 : Hid (∀ b, r5.ownBlock = some b → b < w13.heap.size) := hide (fun b h => Nat.lt_of_lt_of_le (HL5.out b h) hb.size)
  have HR6 := hide (RowN.of hr HS.out.size)
  have HL6 := hide hr.own_lt
  replace HS := hide (HS.out.trans (hb.mono HS.out.size))
  clear hr hb
  clear HA HB
  generalize (listP (putI (memP lA) n true)).length = n0 at *
  generalize (listP (putI (memP lA) n false)).length = n1 at *
  generalize (listP fun k => memP lA k || memP lB k).length = n2 at *
  generalize (listP fun k => memP lB k || memP [] k).length = n3 at *
  generalize (listP fun k => memP lA k && memP lA k).length = n4 at *
  generalize (listP fun k => memP lA k && !memP [] k).length = n5 at *
  generalize (listP (memP lA)).length = n6 at *
  obtain ⟨A0, c0, rfl⟩ := HR0.out.form
  obtain ⟨A1, c1, rfl⟩ := HR1.out.form
  obtain ⟨A2, c2, rfl⟩ := HR2.out.form
  obtain ⟨A3, c3, rfl⟩ := HR3.out.form
  obtain ⟨A4, c4, rfl⟩ := HR4.out.form
  obtain ⟨A5, c5, rfl⟩ := HR5.out.form
  obtain ⟨A6, c6, rfl⟩ := HR6.out.form
  go_wp2
  generalize hws : w13.alloc (Obj.cells #[.slice A0 n0 c0, .slice A1 n1 c1, .slice A2 n2 c2, .slice A3 n3 c3, .slice A4 n4 c4, .slice A5 n5 c5, .slice A6 n6 c6] 22) = ws at *
  have HBs : Hid (Below w6.heap.size w6 ws) := by subst hws; exact hide (HS.out.alloc HS.out.size _)
  have HBt : Hid (Below w13.heap.size w13 ws) := by subst hws; exact hide ((Below.refl _ _).alloc (Nat.le_refl _) _)
  have HR : Hid (Rows7 ws w6.heap.size w13.heap.size) := by
    refine hide (fun j hj => ?_)
    match j, hj with
    | 0, _ => exact ⟨_, n0, by subst hws; go_simp, HR0.out.below HBt.out, HL0.out⟩
    | 1, _ => exact ⟨_, n1, by subst hws; go_simp, HR1.out.below HBt.out, HL1.out⟩
    | 2, _ => exact ⟨_, n2, by subst hws; go_simp, HR2.out.below HBt.out, HL2.out⟩
    | 3, _ => exact ⟨_, n3, by subst hws; go_simp, HR3.out.below HBt.out, HL3.out⟩
    | 4, _ => exact ⟨_, n4, by subst hws; go_simp, HR4.out.below HBt.out, HL4.out⟩
    | 5, _ => exact ⟨_, n5, by subst hws; go_simp, HR5.out.below HBt.out, HL5.out⟩
    | 6, _ => exact ⟨_, n6, by subst hws; go_simp, HR6.out.below HBt.out, HL6.out⟩
  clear hws HR0 HL0 HR1 HL1 HR2 HL2 HR3 HL3 HR4 HL4 HR5 HL5 HR6 HL6 HBt HS
  generalize w13.heap.size = T at *
  go_loopw [45] (fun i wr => ∃ k : Nat, k ≤ 7 ∧ i = .int .i64 k ∧ Hid (Below w6.heap.size w6 wr) ∧ Hid (Rows7 wr w6.heap.size T)) (fun i _ => 7 - (intOf i).toNat)
  case atStart => exact ⟨0, by omega, rfl, HBs, HR⟩
  case round =>
    clear HBs HR
    obtain ⟨k, hk, rfl, HB, HR⟩ := hrel
    by_cases hlt : k < 7
    · have hd : (k : Int) < 7 := by omega
      obtain ⟨v, m, hcell, hrow, hown⟩ := HR.out k hlt
      obtain ⟨A, c, rfl⟩ := hrow.form
      have HW := hide hrow
      have HO := hide hown
      clear hrow hown
      go_wp2
      go_loopw [12] (fun i wx => ∃ j : Nat, j ≤ m ∧ i = .int .i64 j ∧ Hid (Below w6.heap.size w6 wx) ∧ Hid (Rows7 wx w6.heap.size T) ∧ Hid (RowN wx w6.heap.size (.slice A m c) m)) (fun i _ => m - (intOf i).toNat)
      case atStart => exact ⟨0, by omega, rfl, HB, HR, HW⟩
      case round =>
        clear HB HR HW hcell
        obtain ⟨j, hj, rfl, HB, HR, HW⟩ := hrel
        by_cases hjm : j < m
        · have hd2 : (j : Int) < (m : Int) := by omega
          obtain ⟨xs, hrow⟩ := HW.out
          have hl := hrow.1
          rcases hrow.2 with ⟨_, h0⟩ | ⟨g, cap, cur, hv, hg, hh, hnc, hcm, hcs, _⟩
          · omega
          · injection hv with hA hm hc
            subst hA; subst hc
            have hx := World.ownsRow.cellAt hrow j (by omega)
            obtain ⟨old, hold⟩ : ∃ old, xs[j]? = some old := ⟨_, List.getElem?_eq_getElem (by omega)⟩
            rw [hold] at hx
            have hfz := World.ownsRow.frozenAt hrow j
            have hgT : g < T := HO.out g rfl
            unfold maxLen at hcm
            have HB2 := hide (below_set (i := j) (u := .int .i64 (-1)) HB.out hg)
            have HR2 := hide (HR.out.set hgT j (.int .i64 (-1)))
            have HW2 := hide (HW.out.set g j (.int .i64 (-1)))
            clear hrow hh hcs hl hold
            go_wp2
            go_roundw
            case rel => exact ⟨j + 1, by omega, by go_num, HB2, HR2, HW2⟩
            case measure => simp only [intOf]; omega
        · have hd2 : ¬ (j : Int) < (m : Int) := by omega
          go_wp2
          exact ⟨⟨k + 1, by omega, by go_num, HB, HR⟩, by simp only [intOf]; omega⟩
    · have hd : ¬ (k : Int) < 7 := by omega
      have HA := hide (HA6.out.below HB.out)
      have HX := hide (HXA6.out.below HB.out)
      have HBb := hide (HB6.out.below HB.out)
      have HY := hide (HXB6.out.below HB.out)
      have HE := hide (HBW6.out.trans (HB.out.mono HBW6.out.size))
      clear HA6 HXA6 HB6 HXB6 HBW6 HB HR
      go_wp2_with fail
      refine (sSameT HA.out HX.out rfl).mono ?_
      rintro e wy ⟨rfl, hb⟩
      replace HBb := hide (HBb.out.below hb)
      replace HY := hide (HY.out.below hb)
      replace HE := hide (HE.out.trans (hb.mono HE.out.size))
      clear hb HA HX
      go_wp2_with fail
      refine (sSameT HBb.out HY.out rfl).mono ?_
      rintro e wz ⟨rfl, hb⟩
      replace HE := hide (HE.out.trans (hb.mono HE.out.size))
      clear hb
      go_wp2
      go_ret
      exact ⟨rfl, HE.out⟩
end Go.Proofs.YtgbmhimllafljaaDoor
