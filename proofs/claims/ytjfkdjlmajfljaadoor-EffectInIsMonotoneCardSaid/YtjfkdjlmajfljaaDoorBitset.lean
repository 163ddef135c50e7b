/- The package bitset. -/
import Derived.Test.YtjfkdjlmajfljaaDoorSetList
import Derived.Test.YtjfkdjlmajfljaaDoorSetCheck
namespace Go.Proofs.YtjfkdjlmajfljaaDoor
open Go.ChangeShapes Go.WideShapes Go.ChangeAt Go.RowKit Go.Deep
set_option maxHeartbeats 1000000 in
theorem Of_any (v : Value) (l : List Int) (w : World) (hv : Holds w (fun b => b < w.heap.size) 1 v l.length (l.map (Value.int .i64))) (hT : Tab w) :
    Calls Tryd.prog 47 #[v] w fun e w' => (∃ r, e = .returned r ∧ Row w' w.heap.size r (listP (memP l))) ∧ Below w.heap.size w w' := by
  have H := hide (of_any v l w hv)
  have HT := hide hT
  clear hv hT
  go_enter Tryd.func47, Tryd.ntmps47
  go_wp2_with fail
  refine H.out.mono ?_
  rintro e w1 ⟨rfl, hs, hb⟩
  have HS := hide hs
  have HB := hide hb
  have HT1 := hide (HT.out.below' hb)
  clear hs hb
  go_wp2_with fail
  refine (list_any _ _ _ HS.out HT1.out).mono ?_
  rintro e w2 ⟨⟨r, rfl, hr⟩, hb2⟩
  have HR := hide (hr.lower HB.out.size)
  have HB2 := hide (HB.out.trans (hb2.mono HB.out.size))
  clear hr hb2
  go_wp2
  go_ret
  exact ⟨⟨_, rfl, HR.out⟩, HB2.out⟩
set_option maxHeartbeats 1000000 in
theorem Has_any (v : Value) (l : List Int) (n : Int) (w : World) (hv : Holds w (fun b => b < w.heap.size) 1 v l.length (l.map (Value.int .i64))) :
    Calls Tryd.prog 55 #[v, .int .i64 n] w fun e w' => e = .returned (.bool (hasI (memP l) n)) ∧ Below w.heap.size w w' := by
  have H := hide (of_any v l w hv)
  clear hv
  go_enter Tryd.func55, Tryd.ntmps55
  go_wp2_with fail
  refine H.out.mono ?_
  rintro e w1 ⟨rfl, hs, hb⟩
  have HS := hide hs
  have HB := hide hb
  clear hs hb
  go_wp2_with fail
  refine (has_any _ _ _ _ HS.out).mono ?_
  rintro e w2 ⟨rfl, rfl⟩
  go_wp2
  go_ret
  exact ⟨rfl, HB.out⟩
set_option maxHeartbeats 1000000 in
theorem Add_any (v : Value) (l : List Int) (n : Int) (w : World) (hv : Holds w (fun b => b < w.heap.size) 1 v l.length (l.map (Value.int .i64))) (hT : Tab w) :
    Calls Tryd.prog 42 #[v, .int .i64 n] w fun e w' => (∃ r, e = .returned r ∧ Row w' w.heap.size r (listP (putI (memP l) n true))) ∧ Below w.heap.size w w' := by
  have H := hide (of_any v l w hv)
  have HT := hide hT
  clear hv hT
  go_enter Tryd.func42, Tryd.ntmps42
  go_wp2_with fail
  refine H.out.mono ?_
  rintro e w1 ⟨rfl, hs, hb⟩
  have HS := hide hs
  have HB := hide hb
  have HT1 := hide (HT.out.below' hb)
  clear hs hb
  go_wp2_with fail
  refine (put_any _ _ _ _ _ HS.out).mono ?_
  rintro e wx ⟨rfl, hs, hk⟩
  have HS2 := hide hs
  have HBx := hide (HB.out.trans (hk.below (fun b hb => by omega) HB.out.size))
  have HT2 := hide (HT.out.below' HBx.out)
  clear hs hk
  go_wp2_with fail
  refine (list_any _ _ _ HS2.out HT2.out).mono ?_
  rintro e w2 ⟨⟨r, rfl, hr⟩, hb2⟩
  have HR := hide (hr.lower HBx.out.size)
  have HB2 := hide (HBx.out.trans (hb2.mono HBx.out.size))
  clear hr hb2
  go_wp2
  go_ret
  exact ⟨⟨_, rfl, HR.out⟩, HB2.out⟩
set_option maxHeartbeats 1000000 in
theorem Remove_any (v : Value) (l : List Int) (n : Int) (w : World) (hv : Holds w (fun b => b < w.heap.size) 1 v l.length (l.map (Value.int .i64))) (hT : Tab w) :
    Calls Tryd.prog 45 #[v, .int .i64 n] w fun e w' => (∃ r, e = .returned r ∧ Row w' w.heap.size r (listP (putI (memP l) n false))) ∧ Below w.heap.size w w' := by
  have H := hide (of_any v l w hv)
  have HT := hide hT
  clear hv hT
  go_enter Tryd.func45, Tryd.ntmps45
  go_wp2_with fail
  refine H.out.mono ?_
  rintro e w1 ⟨rfl, hs, hb⟩
  have HS := hide hs
  have HB := hide hb
  have HT1 := hide (HT.out.below' hb)
  clear hs hb
  go_wp2_with fail
  refine (put_any _ _ _ _ _ HS.out).mono ?_
  rintro e wx ⟨rfl, hs, hk⟩
  have HS2 := hide hs
  have HBx := hide (HB.out.trans (hk.below (fun b hb => by omega) HB.out.size))
  have HT2 := hide (HT.out.below' HBx.out)
  clear hs hk
  go_wp2_with fail
  refine (list_any _ _ _ HS2.out HT2.out).mono ?_
  rintro e w2 ⟨⟨r, rfl, hr⟩, hb2⟩
  have HR := hide (hr.lower HBx.out.size)
  have HB2 := hide (HBx.out.trans (hb2.mono HBx.out.size))
  clear hr hb2
  go_wp2
  go_ret
  exact ⟨⟨_, rfl, HR.out⟩, HB2.out⟩
set_option maxHeartbeats 1000000 in
theorem Union_any (v u : Value) (l m : List Int) (w : World) (hv : Holds w (fun b => b < w.heap.size) 1 v l.length (l.map (Value.int .i64))) (hu : Holds w (fun b => b < w.heap.size) 1 u m.length (m.map (Value.int .i64))) (hT : Tab w) :
    Calls Tryd.prog 46 #[v, u] w fun e w' => (∃ r, e = .returned r ∧ Row w' w.heap.size r (listP (fun k => memP l k || memP m k))) ∧ Below w.heap.size w w' := by
  have H := hide (of_any v l w hv)
  have HU := hide hu
  have HT := hide hT
  clear hv hT hu
  go_enter Tryd.func46, Tryd.ntmps46
  go_wp2_with fail
  refine H.out.mono ?_
  rintro e w1 ⟨rfl, hs, hb⟩
  have HS := hide hs
  have HB := hide hb
  have hg1 := WordsAt.lt hs
  have HU1 := hide ((HU.out.below hb (fun b h => h)).mono (S' := fun b => b < w1.heap.size) (fun b h => by have := hb.size; omega))
  clear hs hb
  go_wp2_with fail
  refine (of_any _ _ _ HU1.out).mono ?_
  rintro e w2 ⟨rfl, hs2, hb2⟩
  have HS2 := hide hs2
  have HS1 := hide (HS.out.below hb2 hg1)
  have HB2 := hide (HB.out.trans (hb2.mono HB.out.size))
  clear hs2 hb2
  go_wp2_with fail
  refine (with_or _ _ _ _ _ HS1.out HS2.out).mono ?_
  rintro e w3 ⟨rfl, hs3, hb3⟩
  have HS3 := hide hs3
  have HB3 := hide (HB2.out.trans (hb3.mono HB2.out.size))
  have HT3 := hide (HT.out.below' HB3.out)
  clear hs3 hb3
  go_wp2_with fail
  refine (list_any _ _ _ HS3.out HT3.out).mono ?_
  rintro e w4 ⟨⟨r, rfl, hr⟩, hb4⟩
  have HR := hide (hr.lower HB3.out.size)
  have HB4 := hide (HB3.out.trans (hb4.mono HB3.out.size))
  clear hr hb4
  go_wp2
  go_ret
  exact ⟨⟨_, rfl, HR.out⟩, HB4.out⟩
set_option maxHeartbeats 1000000 in
theorem Check_any (v : Value) (l : List Int) (S : Nat → Prop) (w : World) (hv : Holds w S 1 v l.length (l.map (Value.int .i64))) :
    Calls Tryd.prog 53 #[v] w fun e w' => e = .returned (.bool (checkL l)) ∧ w = w' := by
  have HV := hide hv

  obtain ⟨A, c, rfl, hc1, hc2, _, _⟩ := hv
  unfold maxLen at hc2
  go_enter Tryd.func53, Tryd.ntmps53
  go_wp2
  go_loop [7] (fun i => ∃ k : Nat, k ≤ l.length ∧ i = .int .i64 k ∧ Hid (∀ j, j < k → okAt l j = true)) (fun i => l.length - (intOf i).toNat)
  case atStart => exact ⟨0, by omega, rfl, hide (fun j h => by omega)⟩
  case round =>
    obtain ⟨k, hk, rfl, HA⟩ := hrel
    by_cases hlt : k < l.length
    · have hd : (k : Int) < (l.length : Int) := by omega
      obtain ⟨b, o, rfl, hSb, hx⟩ := HV.out.atInt hlt
      cases hin : inB l[k]
      · have HX := hide hin
        have HF : Hid (checkL l = false) := hide (checkL_bad hlt (by unfold okAt; simp [List.getD, hlt, hin]))
        go_wp2_with (first | (go_at_call 67; refine (within_is HX.out _).mono ?_; rintro e w' ⟨rfl, rfl⟩))
        go_ret
        exact ⟨by rw [HF.out]; rfl, rfl⟩
      · have HX := hide hin
        have step : okAt l k = true → Hid (∀ j, j < k + 1 → okAt l j = true) := fun h => hide (fun j hj => by
          by_cases e : j = k
          · subst e; exact h
          · exact HA.out j (by omega))
        rcases Nat.eq_zero_or_pos k with rfl | hpos
        · simp only [Nat.add_zero] at hx
          have hp : ¬ ((0 : Nat) : Int) > 0 := by omega
          have HA2 := step (by rw [okAt_zero hlt]; exact hin)
          clear step
          go_wp2_with (first | (go_at_call 67; refine (within_is HX.out _).mono ?_; rintro e w' ⟨rfl, rfl⟩))
          go_round
          case rel => exact ⟨_, by omega, by go_num, HA2⟩
          case measure => simp only [intOf]; omega
        · obtain ⟨j, rfl⟩ : ∃ j, k = j + 1 := ⟨k - 1, by omega⟩
          have hp : ((j + 1 : Nat) : Int) > 0 := by omega
          have hj : (0 : Int) ≤ (j : Int) := by omega
          have hjl : j < l.length := by omega
          have hd2 : (j : Int) < (l.length : Int) := by omega
          obtain ⟨b', o', he', _, hx0⟩ := HV.out.atInt hjl
          injection he' with he'
          injection he' with e1 e2
          subst e1; subst e2
          by_cases hcmp : l[j + 1] ≤ l[j]
          · have HF : Hid (checkL l = false) := hide (checkL_bad hlt (by rw [okAt_succ hlt]; simp; omega))
            clear step
            go_wp2_with (first | (go_at_call 67; refine (within_is HX.out _).mono ?_; rintro e w' ⟨rfl, rfl⟩))
            go_ret
            exact ⟨by rw [HF.out]; rfl, rfl⟩
          · have HA2 := step (by rw [okAt_succ hlt]; simp [hin]; omega)
            clear step
            go_wp2_with (first | (go_at_call 67; refine (within_is HX.out _).mono ?_; rintro e w' ⟨rfl, rfl⟩))
            go_round
            case rel => exact ⟨_, by omega, by go_num, HA2⟩
            case measure => simp only [intOf]; omega
    · have hd : ¬ (k : Int) < (l.length : Int) := by omega
      have HF : Hid (checkL l = true) := hide (checkL_ok (fun j hj => HA.out j (by omega)))
      go_wp2
      go_ret
      exact ⟨by rw [HF.out]; rfl, rfl⟩
end Go.Proofs.YtjfkdjlmajfljaaDoor
