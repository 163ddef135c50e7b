/- Sets as values: the contracts in one form; the drawn set. -/
import Derived.Test.YtgbmhimllafljaaDoorBitsetOf
import Derived.Test.YtgbmhimllafljaaDoorSetWithin
namespace Go.Proofs.YtgbmhimllafljaaDoor
open Go.ChangeShapes Go.WideShapes Go.ChangeAt Go.RowKit Go.Deep
/-- The value v is a set s, a row of its own. -/
def SV (w : World) (v : Value) (s : List Int) : Prop := Row w 0 v s ∧ IsSet s
section
variable {w w' : World} {v u : Value} {s t : List Int}
theorem SV.below (h : SV w v s) (hb : Below w.heap.size w w') : SV w' v s := ⟨h.1.below hb, h.2⟩
theorem SV.of {base : Nat} (h : Row w base v s) (hs : IsSet s) : SV w v s := ⟨h.lower (Nat.zero_le _), hs⟩
theorem SV.holds (h : SV w v s) : Holds w (fun b => b < w.heap.size) 1 v s.length (s.map (Value.int .i64)) := h.1.holdsLt
theorem SV.len (h : SV w v s) : s.length ≤ 512 := h.2.length
abbrev MakesSV (w : World) (r : List Int) (e : Ending) (w' : World) : Prop := (∃ x, e = .returned x ∧ SV w' x r) ∧ Below w.heap.size w w'
theorem sUnion (hv : SV w v s) (hu : SV w u t) (hT : Tab w) : Calls Tryd.prog 24 #[v, u] w (MakesSV w (unionL s t)) :=
  (Union_any v u s t w hv.holds hu.holds hT).mono fun _ _ ⟨⟨r, h1, h2⟩, h3⟩ => ⟨⟨r, h1, SV.of (by rw [listP_union hv.2] at h2; exact h2) (IsSet.union hv.2)⟩, h3⟩
theorem sMeet (hv : SV w v s) (hu : SV w u t) (hT : Tab w) : Calls Tryd.prog 25 #[v, u] w (MakesSV w (meetL s t)) :=
  (Meet_any v u s t w hv.holds hu.holds hT).mono fun _ _ ⟨⟨r, h1, h2⟩, h3⟩ => ⟨⟨r, h1, SV.of (by rw [listP_meet hv.2] at h2; exact h2) (hv.2.filter _)⟩, h3⟩
theorem sMinus (hv : SV w v s) (hu : SV w u t) (hT : Tab w) : Calls Tryd.prog 26 #[v, u] w (MakesSV w (minusL s t)) :=
  (Minus_any v u s t w hv.holds hu.holds hT).mono fun _ _ ⟨⟨r, h1, h2⟩, h3⟩ => ⟨⟨r, h1, SV.of (by rw [listP_minus hv.2] at h2; exact h2) (hv.2.filter _)⟩, h3⟩
theorem sAdd (n : Int) (hv : SV w v s) (hT : Tab w) : Calls Tryd.prog 20 #[v, .int .i64 n] w (MakesSV w (addL s n)) :=
  (Add_any v s n w hv.holds hT).mono fun _ _ ⟨⟨r, h1, h2⟩, h3⟩ => ⟨⟨r, h1, SV.of (by rw [listP_add hv.2] at h2; exact h2) (hv.2.addL n)⟩, h3⟩
theorem sRemove (n : Int) (hv : SV w v s) (hT : Tab w) : Calls Tryd.prog 22 #[v, .int .i64 n] w (MakesSV w (remL s n)) :=
  (Remove_any v s n w hv.holds hT).mono fun _ _ ⟨⟨r, h1, h2⟩, h3⟩ => ⟨⟨r, h1, SV.of (by rw [listP_remove hv.2] at h2; exact h2) (hv.2.filter _)⟩, h3⟩
theorem sOf (hv : SV w v s) (hT : Tab w) : Calls Tryd.prog 9 #[v] w (MakesSV w s) :=
  (Of_any v s w hv.holds hT).mono fun _ _ ⟨⟨r, h1, h2⟩, h3⟩ => ⟨⟨r, h1, SV.of (by rw [listP_of, ofL_set hv.2] at h2; exact h2) hv.2⟩, h3⟩
theorem tUnion (hv : SV w v s) (hu : SV w u t) : Calls Tryd.prog 27 #[v, u] w (MakesSV w (unionL s t)) :=
  (rUnion_any v u s t 0 w hv.1 hu.holds (by have := hv.len; omega) (by have := hu.len; omega)).mono fun _ _ ⟨⟨r, h1, h2⟩, h3⟩ => ⟨⟨r, h1, SV.of h2 (IsSet.union hv.2)⟩, h3⟩
theorem tMeet (hv : SV w v s) (hu : SV w u t) : Calls Tryd.prog 28 #[v, u] w (MakesSV w (meetL s t)) :=
  (rMeet_any v u s t w hv.holds hu.holds (by have := hv.len; omega)).mono fun _ _ ⟨⟨r, h1, h2⟩, h3⟩ => ⟨⟨r, h1, SV.of h2 (hv.2.filter _)⟩, h3⟩
theorem tMinus (hv : SV w v s) (hu : SV w u t) : Calls Tryd.prog 29 #[v, u] w (MakesSV w (minusL s t)) :=
  (rMinus_any v u s t w hv.holds hu.holds (by have := hv.len; omega)).mono fun _ _ ⟨⟨r, h1, h2⟩, h3⟩ => ⟨⟨r, h1, SV.of h2 (hv.2.filter _)⟩, h3⟩
theorem tAdd (n : Int) (hv : SV w v s) : Calls Tryd.prog 21 #[v, .int .i64 n] w (MakesSV w (addL s n)) :=
  (rAdd_any v s n w hv.holds (by have := hv.len; omega)).mono fun _ _ ⟨⟨r, h1, h2⟩, h3⟩ => ⟨⟨r, h1, SV.of h2 (hv.2.addL n)⟩, h3⟩
theorem tRemove (n : Int) (hv : SV w v s) : Calls Tryd.prog 23 #[v, .int .i64 n] w (MakesSV w (remL s n)) :=
  (rRemove_any v s n w hv.holds (by have := hv.len; omega)).mono fun _ _ ⟨⟨r, h1, h2⟩, h3⟩ => ⟨⟨r, h1, SV.of h2 (hv.2.filter _)⟩, h3⟩
theorem sHas (n : Int) (hv : SV w v s) : Calls Tryd.prog 18 #[v, .int .i64 n] w fun e w' => e = .returned (.bool (hasL s n)) ∧ Below w.heap.size w w' :=
  (Has_any v s n w hv.holds).mono fun _ _ ⟨h1, h2⟩ => ⟨by rw [h1, hasI_set hv.2], h2⟩
theorem tHas (n : Int) (hv : SV w v s) : Calls Tryd.prog 19 #[v, .int .i64 n] w fun e w' => e = .returned (.bool (hasL s n)) ∧ Below w.heap.size w w' :=
  (rHas_any v s n _ w hv.holds).mono fun _ _ ⟨h1, h2⟩ => ⟨h1, h2 ▸ Below.refl _ _⟩
theorem within_set {a b : List Int} (hb : IsSet b) : a.all (hasI (memP b)) = withinL a b := by
  rw [withinL_iff]
  congr 1
  funext x
  exact hasI_set hb x
theorem sWithin (hv : SV w v s) (hu : SV w u t) : Calls Tryd.prog 30 #[v, u] w fun e w' => e = .returned (.bool (withinL s t)) ∧ Below w.heap.size w w' :=
  (Within_any v u s t w hv.holds hu.holds).mono fun _ _ ⟨h1, h2⟩ => ⟨by rw [h1, within_set hu.2], h2⟩
theorem tWithin (hv : SV w v s) (hu : SV w u t) : Calls Tryd.prog 31 #[v, u] w fun e w' => e = .returned (.bool (withinL s t)) ∧ Below w.heap.size w w' :=
  rWithin_any v u s t w hv.holds hu.holds (by have := hv.len; omega)
theorem sSame (hv : SV w v s) (hu : SV w u t) : Calls Tryd.prog 10 #[v, u] w fun e w' => e = .returned (.bool (decide (s = t))) ∧ Below w.heap.size w w' :=
  (Same_any v u s t _ _ w hv.holds hu.holds).mono fun _ _ ⟨h1, n, h2⟩ => ⟨h1, h2 ▸ below_drewN2 (Below.refl _ _) n⟩
theorem sSameT (hv : SV w v s) (hu : SV w u t) (he : s = t) : Calls Tryd.prog 10 #[v, u] w fun e w' => e = .returned (.bool true) ∧ Below w.heap.size w w' :=
  (sSame hv hu).mono fun _ _ ⟨h1, h2⟩ => ⟨by rw [h1]; simp [he], h2⟩
end
set_option maxHeartbeats 1000000 in
theorem set_any (B g : Nat) (w : World) (h : Codes w B g) :
    Calls Tryd.prog 15 #[.pointer (some ⟨g, 0, none⟩)] w fun e w' => (∃ r, e = .returned r ∧ ∃ s, Row w' w.heap.size r s ∧ IsSet s) ∧ Codes w' B g ∧ Keeps (fun b => b ≠ g) w w' := by
  have hg : g < w.heap.size := h.2.1
  have hBg : B ≤ g := h.1
  have H := hide h
  clear h
  go_enter Tryd.func15, Tryd.ntmps15
  go_wp2_with fail
  refine (Next_any B g _ _ H.out (by omega) (by omega)).mono ?_
  rintro e w1 ⟨⟨x, rfl, hx0, hx1, _⟩, hcd, hk⟩
  have hx2 := hx1 (by omega)
  have HCD := hide hcd
  have HK := hide hk
  clear hcd hk hx1 H
  go_wp2
  go_loopw [3, 4] (fun v n wr => ∃ (s : List Int) (k : Nat), n = .int .i64 k ∧ k ≤ 20 ∧ Hid (Row wr w.heap.size v s) ∧ Hid (IsSet s) ∧ Hid (Codes wr B g) ∧ Hid (Keeps (fun b => b ≠ g) w wr)) (fun _ n _ => (intOf n).toNat)
  case atStart =>
    obtain ⟨k, rfl⟩ := Int.eq_ofNat_of_zero_le hx0
    exact ⟨[], k, rfl, by omega, Row.nil _ _, hide IsSet.nil, HCD, HK⟩
  case round =>
    clear HCD HK hx0 hx2
    obtain ⟨s, k, rfl, hlk, HO, HS, HC, HK⟩ := hrel
    by_cases hlt : 0 < k
    · have hd : (0 : Int) < (k : Int) := by omega
      go_wp2_with fail
      refine (Next_any B g _ _ HC.out (by omega) (by omega)).mono ?_
      rintro e w2 ⟨⟨y, rfl, hy0, hy1, _⟩, hcd, hk⟩
      have HC2 := hide hcd
      have HK2 := hide (HK.out.trans hk)
      have HO2 := hide (HO.out.keep hk (fun b hb => by have := (HO.out.lt b hb).1; omega))
      have hy2 := hy1 (by omega)
      clear hcd hk hy1 HC HK HO
      go_wp2_with fail
      refine (Next_any B g _ _ HC2.out (by omega) (by omega)).mono ?_
      rintro e w3 ⟨⟨z, rfl, hz0, hz1, _⟩, hcd, hk⟩
      have HC3 := hide hcd
      have HK3 := hide (HK2.out.trans hk)
      have HO3 := hide (HO2.out.keep hk (fun b hb => by have := (HO2.out.lt b hb).1; omega))
      clear hcd hk hz1 HC2 HK2 HO2
      have hsl := HS.out.length
      by_cases hz : z = 9
      · have hzb : (z == 9) = true := by simp [hz]
        clear hz
        go_wp2_with fail
        refine (Next_any B g _ _ HC3.out (by omega) (by omega)).mono ?_
        rintro e w4 ⟨⟨x4, rfl, hx40, hx41, _⟩, hcd, hk⟩
        have hx42 := hx41 (by omega)
        have HC4 := hide hcd
        have HK4 := hide (HK3.out.trans hk)
        have HO4 := hide (HO3.out.keep hk (fun b hb => by have := (HO3.out.lt b hb).1; omega))
        clear hcd hk hx41 HC3 HK3 HO3
        go_wp2_with fail
        refine (rAdd_any _ _ _ _ HO4.out.holdsLt (by omega)).mono ?_
        rintro e w5 ⟨⟨r, rfl, hr⟩, hb⟩
        have HR := hide (hr.lower HK4.out.size)
        have HS5 := hide (HS.out.addL (511 - x4))
        have HC5 := hide (HC4.out.keep (Keeps.of_below (K := fun _ => True) hb) trivial (fun _ _ => trivial))
        have HK5 := hide (HK4.out.trans (Keeps.of_below hb))
        clear hr hb
        go_wp2
        go_roundw
        case rel => exact ⟨_, k - 1, by have e : ((k - 1 : Nat) : Int) = (k : Int) - 1 := by { omega }; rw [e], by omega, HR, HS5, HC5, HK5⟩
        case measure => simp only [intOf]; omega
      · have hzb : (z == 9) = false := by simp [hz]
        clear hz
        go_wp2_with fail
        refine (rAdd_any _ _ _ _ HO3.out.holdsLt (by omega)).mono ?_
        rintro e w5 ⟨⟨r, rfl, hr⟩, hb⟩
        have HR := hide (hr.lower HK3.out.size)
        have HS5 := hide (HS.out.addL y)
        have HC5 := hide (HC3.out.keep (Keeps.of_below (K := fun _ => True) hb) trivial (fun _ _ => trivial))
        have HK5 := hide (HK3.out.trans (Keeps.of_below hb))
        clear hr hb
        go_wp2
        go_roundw
        case rel => exact ⟨_, k - 1, by have e : ((k - 1 : Nat) : Int) = (k : Int) - 1 := by { omega }; rw [e], by omega, HR, HS5, HC5, HK5⟩
        case measure => simp only [intOf]; omega
    · have hd : ¬ (0 : Int) < (k : Int) := by omega
      go_wp2
      go_ret
      exact ⟨⟨_, rfl, s, HO.out, HS.out⟩, HC.out, HK.out⟩
end Go.Proofs.YtgbmhimllafljaaDoor
