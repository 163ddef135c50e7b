/- slices.SortFunc on intervals, by the contract of the library (the numbers are those of one seat). -/
import Derived.Test.YthlpmklgokjdkaaSortA
import Derived.Test.YthlpmklgokjdkaaGr
import Derived.Test.YthlpmklgokjdkaaFnV
import Derived.Test.YthlpmklgokjdkaaChecked
import Derived.Shelf.SlSortCmp.NoneTotal
import Derived.Shelf.SlGeneric
set_option linter.unusedVariables false
set_option linter.unusedSimpArgs false
namespace Go.Proofs.Ythlpmklgokjdkaa
open Go.Shelf Go.RowKit Go.Sort Q
def sort_lays_ren : Go.Shelf.Ren := ⟨fun | 6 => 40 | 15 => 53 | 14 => 52 | 28 => 63 | 29 => 64 | 20 => 55 | 21 => 56 | 22 => 57 | 23 => 58 | 24 => 59 | 25 => 60 | 26 => 61 | 27 => 62 | 46 => 66 | 47 => 67 | 48 => 68 | 49 => 69 | 50 => 70 | 57 => 71 | n => n, fun | 22 => 49 | 24 => 51 | 25 => 70 | 3 => 3 | 39 => 76 | 0 => 0 | 53 => 89 | 55 => 91 | 4 => 4 | 46 => 83 | 45 => 82 | 50 => 64 | 5 => 5 | 9 => 9 | 66 => 92 | 70 => 96 | 76 => 98 | 77 => 99 | n => n, fun | n => n⟩
theorem sort_lays : Go.Proofs.SlLaysF0.n6 Try.prog sort_lays_ren := {
  mixed := by kernel_rfl,
  f6 := ⟨Try.f40.name, by decide, Try.func40.trans (congrArg some (by kernel_rfl))⟩,
  f14 := ⟨Try.f52.name, by decide, Try.func52.trans (congrArg some (by kernel_rfl))⟩,
  f15 := Try.func53.trans (congrArg some (by kernel_rfl)),
  f20 := ⟨Try.f55.name, by decide, Try.func55.trans (congrArg some (by kernel_rfl))⟩,
  f21 := ⟨Try.f56.name, by decide, Try.func56.trans (congrArg some (by kernel_rfl))⟩,
  f22 := ⟨Try.f57.name, by decide, Try.func57.trans (congrArg some (by kernel_rfl))⟩,
  f23 := ⟨Try.f58.name, by decide, Try.func58.trans (congrArg some (by kernel_rfl))⟩,
  f24 := ⟨Try.f59.name, by decide, Try.func59.trans (congrArg some (by kernel_rfl))⟩,
  f25 := ⟨Try.f60.name, by decide, Try.func60.trans (congrArg some (by kernel_rfl))⟩,
  f26 := ⟨Try.f61.name, by decide, Try.func61.trans (congrArg some (by kernel_rfl))⟩,
  f27 := ⟨Try.f62.name, by decide, Try.func62.trans (congrArg some (by kernel_rfl))⟩,
  f28 := Try.func63.trans (congrArg some (by kernel_rfl)),
  f29 := Try.func64.trans (congrArg some (by kernel_rfl)),
  f46 := ⟨Try.f66.name, by decide, Try.func66.trans (congrArg some (by kernel_rfl))⟩,
  f47 := Try.func67.trans (congrArg some (by kernel_rfl)),
  f48 := Try.func68.trans (congrArg some (by kernel_rfl)),
  f49 := ⟨Try.f69.name, by decide, Try.func69.trans (congrArg some (by kernel_rfl))⟩,
  f50 := ⟨Try.f70.name, by decide, Try.func70.trans (congrArg some (by kernel_rfl))⟩,
  f57 := ⟨Try.f71.name, by decide, Try.func71.trans (congrArg some (by kernel_rfl))⟩,
  t0 := Try.underlying0,
  a0 := Try.isAgg0,
  z0 := Try.sizeOf0,
  v0 := Try.zeroValue0,
  t3 := Try.underlying3,
  a3 := Try.isAgg3,
  z3 := Try.sizeOf3,
  v3 := Try.zeroValue3,
  t4 := Try.underlying4,
  a4 := Try.isAgg4,
  z4 := Try.sizeOf4,
  v4 := Try.zeroValue4,
  t5 := Try.underlying5,
  a5 := Try.isAgg5,
  z5 := Try.sizeOf5,
  v5 := Try.zeroValue5,
  t9 := Try.underlying9,
  a9 := Try.isAgg9,
  z9 := Try.sizeOf9,
  v9 := Try.zeroValue9,
  t22 := Try.underlying49,
  a22 := Try.isAgg49,
  z22 := Try.sizeOf49,
  v22 := Try.zeroValue49,
  t25 := Try.underlying70,
  a25 := Try.isAgg70,
  z25 := Try.sizeOf70,
  v25 := Try.zeroValue70,
  t39 := Try.underlying76,
  a39 := Try.isAgg76,
  z39 := Try.sizeOf76,
  v39 := Try.zeroValue76,
  t45 := Try.underlying82,
  a45 := Try.isAgg82,
  z45 := Try.sizeOf82,
  v45 := Try.zeroValue82,
  t46 := Try.underlying83,
  a46 := Try.isAgg83,
  z46 := Try.sizeOf83,
  v46 := Try.zeroValue83,
  t50 := Try.underlying64,
  a50 := Try.isAgg64,
  z50 := Try.sizeOf64,
  v50 := Try.zeroValue64,
  t53 := Try.underlying89,
  a53 := Try.isAgg89,
  z53 := Try.sizeOf89,
  v53 := Try.zeroValue89,
  t55 := Try.underlying91,
  a55 := Try.isAgg91,
  z55 := Try.sizeOf91,
  v55 := Try.zeroValue91,
  t66 := Try.underlying92,
  a66 := Try.isAgg92,
  z66 := Try.sizeOf92,
  v66 := Try.zeroValue92,
  t70 := Try.underlying96,
  a70 := Try.isAgg96,
  z70 := Try.sizeOf96,
  v70 := Try.zeroValue96,
  t76 := Try.underlying98,
  a76 := Try.isAgg98,
  z76 := Try.sizeOf98,
  v76 := Try.zeroValue98,
  t77 := Try.underlying99,
  a77 := Try.isAgg99,
  z77 := Try.sizeOf99,
  v77 := Try.zeroValue99 }

set_option maxHeartbeats 1000000 in
theorem sort_cmp (x y : AInterval) (W : World) : Calls Try.prog 41 #[.agg #[.int .i64 x.Off, .int .i64 x.Size], .agg #[.int .i64 y.Off, .int .i64 y.Size]] W fun e w' => e = .returned (.int .i64 (Lib.compareInt x.Off y.Off)) ∧ ∃ q os', w' = grow (W.drewN q) os' := by
  have hc : ∀ (i j : Int) (W' : World), Calls Try.prog 17 #[.int .i64 i, .int .i64 j] W' fun e w' => e = .returned (.int .i64 (Lib.compareInt i j)) ∧ w' = W' := by
    intro i j W'
    by_cases h1 : i < j
    · go_enter Try.func17, Try.ntmps17
      go_wp2
      go_ret
      exact ⟨by unfold Lib.compareInt; rw [if_pos (show i < j by omega)]; rfl, rfl⟩
    · by_cases h2 : j < i
      · go_enter Try.func17, Try.ntmps17
        go_wp2
        go_ret
        exact ⟨by unfold Lib.compareInt; rw [if_neg (show ¬ i < j by omega), if_pos (show i > j by omega)]; rfl, rfl⟩
      · go_enter Try.func17, Try.ntmps17
        go_wp2
        go_ret
        exact ⟨by unfold Lib.compareInt; rw [if_neg (show ¬ i < j by omega), if_neg (show ¬ i > j by omega)]; rfl, rfl⟩
  have hcon := fun W' => hc x.Off y.Off W'
  clear hc
  generalize Lib.compareInt x.Off y.Off = r at hcon ⊢
  go_enter Try.func41, Try.ntmps41
  go_wp2_with (go_at_call 17; refine (hcon _).mono ?_; rintro e w' ⟨rfl, rfl⟩)
  go_ret
  exact ⟨rfl, 0, _, by rw [alloc_eq_grow, alloc_eq_grow, grow_grow]; rfl⟩
def cfOff (x y : AInterval) : Int := Lib.compareInt x.Off y.Off
theorem ltOff (x y : AInterval) : ltOf cfOff x y = decide (x.Off < y.Off) := by
  unfold ltOf cfOff Lib.compareInt
  by_cases h1 : x.Off < y.Off
  · simp [h1]
  · by_cases h2 : y.Off < x.Off <;> simp [h1, h2]
theorem swoOff : SWO (ltOf cfOff) where
  irrefl x := by rw [ltOff]; simp
  trans x y z h1 h2 := by rw [ltOff] at *; simp at *; omega
  ntrans x y z h1 h2 := by rw [ltOff] at *; simp at *; omega
theorem Q.sort_extent_Fit_2_ok : SortC Try.prog 40 (.func (.func 41) #[] #[]) row_AInterval 2 sort_extent_Fit_2 where
  fn := ⟨_, Try.func40, rfl, rfl⟩
  len l := by
    unfold sort_extent_Fit_2
    have h := (pdq_sorts (ltOf cfOff) swoOff l.toArray 0 l.length (Lib.bitLen l.length) true true (Nat.zero_le _) (by simp) (Or.inl rfl)).1.1
    rw [Array.length_toList]
    exact h.trans (by simp)
  row x := rfl
  sc x := rfl
  pos := by decide
  call w b cap l hH hb hl := by
    have eg : ∀ args w, (callFunc 41 args).run Try.prog w = .ok (.enter 41 args) w := enters_of Try.func41 (by kernel_rfl) rfl
    have h := AnyQ.slices_SortFunc_eq sort_lays 2 Try.isAgg51 Try.sizeOf51 (encS row_AInterval) (fun _ => rfl) (fun x v hv => by simp [encS, row_AInterval, TV.val0] at hv; rcases hv with rfl | rfl <;> rfl) cfOff swoOff 41 #[] b 0 cap l.toArray w eg (fun _ _ _ _ x y => sort_cmp x y _) hH hb (by simpa using hl)
    unfold sort_extent_Fit_2
    simp only [List.size_toArray, Array.toArray_toList] at h ⊢
    exact h
  none w := AnyF.slices_SortFunc_none sort_lays none 0 _ w
end Go.Proofs.Ythlpmklgokjdkaa
