/- The walk of BitsetElements. -/
import Derived.Test.YtgbmhimllafljaaDoorSetStep
import Derived.Test.YtgbmhimllafljaaDoorMod
namespace Go.Proofs.YtgbmhimllafljaaDoor
open Go.ChangeShapes Go.WideShapes Go.ChangeAt Go.RowKit Go.Deep
set_option maxRecDepth 100000 in
set_option maxHeartbeats 4000000 in
theorem law_BitsetElements (u : Value) (cs : List Int) (n : Int) (w : World) (hu : Holds w (fun b => b < w.heap.size) 1 u cs.length (cs.map (Value.int .u8))) (hcs : ∀ z ∈ cs, 0 ≤ z ∧ z ≤ 255) (_ : -9223372036854775808 ≤ n ∧ n ≤ 9223372036854775807) (hT : Tab w) :
    Calls Tryd.prog 4 #[u, .int .i64 n] w fun e w' => e = .returned (.bool true) ∧ Below w.heap.size w w' := by
  have HU := hide hu
  have HC := hide hcs
  have HT := hide hT
  clear hu hcs hT
  go_enter Tryd.func4, Tryd.ntmps4
  go_wp2_with fail
  refine (awake04 _ HT.out).mono ?_
  rintro e w1 ⟨rfl, hb⟩
  replace HU := hide ((HU.out.below hb (fun b h => h)).mono (S' := fun b => b < w1.heap.size) (fun b h => by have := hb.size; omega))
  have HBW := hide hb
  have hz1 := hb.size
  clear hb
  go_wp2_with fail
  refine (New_any u cs 60 _ HU.out HC.out (by omega)).mono ?_
  rintro e w2 ⟨rfl, hcd, hb⟩
  have HCD := hide hcd
  have hz2 := hcd.2.1
  replace HBW := hide (HBW.out.trans (hb.mono HBW.out.size))
  clear hb hcd HU HC
  go_wp2_with fail
  refine (set_any _ _ _ HCD.out).mono ?_
  rintro e w3 ⟨⟨vA, rfl, lA, hx, hs⟩, hcd, hk⟩
  replace HCD := hide hcd
  have hz3 : w2.heap.size ≤ w3.heap.size := hk.size
  replace HBW := hide (HBW.out.trans (hk.below (fun b hb => by omega) HBW.out.size))
  have HA := hide (And.intro hx hs)
  clear hx hs hcd hk
  go_wp2_with (first | (go_at_call 16; refine (Mod_any2 _ _ _ (by omega) (by omega)).mono ?_; rintro e w' ⟨rfl, rfl⟩) | fail)
  refine (Next_any _ _ _ _ HCD.out (by omega) (by omega)).mono ?_
  rintro e w4 ⟨⟨z, rfl, hz0, hzz, _⟩, hcd, hk⟩
  have hzz2 := hzz (by omega)
  have HA2 := hide (SV.of (HA.out.1.keep hk (fun b hb => by have := (HA.out.1.lt b hb).1; omega)) HA.out.2)
  replace HBW := hide (HBW.out.trans (hk.below (fun b hb => by omega) HBW.out.size))
  clear HA hcd hk hzz HCD
  go_wp2_with fail
  have hz4 : w.heap.size ≤ w4.heap.size := HBW.out.size
  have HBs := hide (HBW.out.alloc hz4 (Obj.cells #[.int .i64 n, .int .i64 (n % 32), .int .i64 (512 - z)] 3))
  have HBt := hide ((Below.refl w4.heap.size w4).alloc (Nat.le_refl _) (Obj.cells #[.int .i64 n, .int .i64 (n % 32), .int .i64 (512 - z)] 3))
  have HL : Hid (Holds (w4.alloc (Obj.cells #[.int .i64 n, .int .i64 (n % 32), .int .i64 (512 - z)] 3)) (fun b => b = w4.heap.size) 1 (.slice (some ⟨w4.heap.size, 0, none⟩) 3 3) [n, n % 32, 512 - z].length ([n, n % 32, 512 - z].map (Value.int .i64))) := by
    refine hide ⟨_, _, rfl, Nat.le_refl 3, by decide, rfl, fun _ => ⟨_, 0, rfl, rfl, fun j u hu => ?_⟩⟩
    match j, hu with
    | 0, hu | 1, hu | 2, hu => simp at hu; subst hu; go_simp
  have HAs := hide (HA2.out.below HBt.out)
  have hws : w4.heap.size < (w4.alloc (Obj.cells #[.int .i64 n, .int .i64 (n % 32), .int .i64 (512 - z)] 3)).heap.size := by simp
  generalize (w4.alloc (Obj.cells #[.int .i64 n, .int .i64 (n % 32), .int .i64 (512 - z)] 3)) = ws at *
  generalize hls : [n, n % 32, 512 - z] = ls at *
  have hll : ls.length = 3 := by rw [← hls]; rfl
  have HLL := hide hll
  clear HBW HA2 HBt hls hll
  go_loopw [23] (fun i wr => ∃ k : Nat, k ≤ 3 ∧ i = .int .i64 k ∧ Hid (Below ws.heap.size ws wr)) (fun i _ => 3 - (intOf i).toNat)
  case atStart => exact ⟨0, by omega, rfl, hide (Below.refl _ _)⟩
  case round =>
    obtain ⟨k, hk3, rfl, HB⟩ := hrel
    by_cases hlt : k < 3
    · have hd : (k : Int) < 3 := by omega
      have hkl : k < ls.length := by have := HLL.out; omega
      have hh := HL.out.below HB.out (fun b h => by omega)
      have e3 := HLL.out
      rw [e3] at hh
      rw [show (Value.slice (some ⟨w4.heap.size, 0, none⟩) 3 3) = .slice (some ⟨w4.heap.size, 0, none⟩) ls.length 3 by rw [e3], show (3 : Nat) = ls.length from e3.symm] at hh
      obtain ⟨b, o, hbo, hSb, hx⟩ := hh.atInt hkl
      clear hh e3
      injection hbo with hbo
      injection hbo with e1 e2 _
      subst e1; subst e2
      simp only [Nat.zero_add] at hx
      generalize ls[k] = q at *
      have HA := hide (HAs.out.below HB.out)
      go_wp2_with fail
      refine (sHas q HA.out).mono ?_
      rintro e w31 ⟨rfl, hb⟩
      replace HA := hide (HA.out.below hb)
      replace HB := hide (HB.out.trans (hb.mono HB.out.size))
      clear hb
      go_wp2_with fail
      refine (tHas q HA.out).mono ?_
      rintro e w32 ⟨rfl, hb⟩
      replace HA := hide (HA.out.below hb)
      replace HB := hide (HB.out.trans (hb.mono HB.out.size))
      clear hb
      go_wp2_with fail
      refine (sAdd q HA.out (HT.out.below' (HBs.out.trans (HB.out.mono HBs.out.size)))).mono ?_
      rintro e w33 ⟨⟨v33, rfl, hr⟩, hb⟩
      replace HA := hide (HA.out.below hb)
      replace HB := hide (HB.out.trans (hb.mono HB.out.size))
      have HR := hide hr
      clear hr hb
      go_wp2_with fail
      refine (tAdd q HA.out).mono ?_
      rintro e w34 ⟨⟨v34, rfl, hr⟩, hb⟩
      replace HA := hide (HA.out.below hb)
      replace HR := hide (HR.out.below hb)
      replace HB := hide (HB.out.trans (hb.mono HB.out.size))
      have HQ := hide hr
      clear hr hb
      go_wp2_with fail
      refine (sSameT HR.out HQ.out rfl).mono ?_
      rintro e w35 ⟨rfl, hb⟩
      replace HA := hide (HA.out.below hb)
      replace HB := hide (HB.out.trans (hb.mono HB.out.size))
      clear hb
      clear HR HQ
      go_wp2_with fail
      refine (sRemove q HA.out (HT.out.below' (HBs.out.trans (HB.out.mono HBs.out.size)))).mono ?_
      rintro e w36 ⟨⟨v36, rfl, hr⟩, hb⟩
      replace HA := hide (HA.out.below hb)
      replace HB := hide (HB.out.trans (hb.mono HB.out.size))
      have HR := hide hr
      clear hr hb
      go_wp2_with fail
      refine (tRemove q HA.out).mono ?_
      rintro e w37 ⟨⟨v37, rfl, hr⟩, hb⟩
      replace HA := hide (HA.out.below hb)
      replace HR := hide (HR.out.below hb)
      replace HB := hide (HB.out.trans (hb.mono HB.out.size))
      have HQ := hide hr
      clear hr hb
      go_wp2_with fail
      refine (sSameT HR.out HQ.out rfl).mono ?_
      rintro e w38 ⟨rfl, hb⟩
      replace HA := hide (HA.out.below hb)
      replace HB := hide (HB.out.trans (hb.mono HB.out.size))
      clear hb
      clear HR HQ
      go_wp2
      go_roundw
      case rel => exact ⟨k + 1, by omega, by go_num, HB⟩
      case measure => simp only [intOf]; omega
    · have hd : ¬ (k : Int) < 3 := by omega
      go_wp2
      go_ret
      exact ⟨rfl, HBs.out.trans (HB.out.mono HBs.out.size)⟩
end Go.Proofs.YtgbmhimllafljaaDoor
