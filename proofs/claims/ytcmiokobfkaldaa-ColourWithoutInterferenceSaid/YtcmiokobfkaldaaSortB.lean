/- slices.SortFunc on intervals, by the contract of the library (the numbers are those of one seat). -/
import Derived.Test.YtcmiokobfkaldaaSortA
import Derived.Test.YtcmiokobfkaldaaGr
import Derived.Test.YtcmiokobfkaldaaFnV
import Derived.Test.YtcmiokobfkaldaaChecked
import Derived.Shelf.SlSortCmp.NoneTotal
import Derived.Shelf.SlGeneric
set_option linter.unusedVariables false
set_option linter.unusedSimpArgs false
namespace Go.Proofs.Ytcmiokobfkaldaa
open Go.Shelf Go.RowKit Go.Sort Q
def sort_lays_ren : Go.Shelf.Ren := ⟨fun | 6 => 38 | 15 => 66 | 14 => 65 | 28 => 86 | 29 => 87 | 20 => 78 | 21 => 79 | 22 => 80 | 23 => 81 | 24 => 82 | 25 => 83 | 26 => 84 | 27 => 85 | 46 => 94 | 47 => 95 | 48 => 96 | 49 => 97 | 50 => 98 | 57 => 100 | n => n, fun | 22 => 23 | 24 => 33 | 25 => 66 | 3 => 3 | 39 => 83 | 0 => 0 | 53 => 99 | 55 => 101 | 4 => 4 | 46 => 93 | 45 => 92 | 50 => 87 | 5 => 5 | 9 => 9 | 66 => 105 | 70 => 109 | 76 => 111 | 77 => 112 | n => n, fun | n => n⟩
theorem sort_lays : Go.Proofs.SlLaysF0.n6 Try.prog sort_lays_ren := {
  mixed := by kernel_rfl,
  f6 := ⟨Try.f38.name, by decide, Try.func38.trans (congrArg some (by kernel_rfl))⟩,
  f14 := ⟨Try.f65.name, by decide, Try.func65.trans (congrArg some (by kernel_rfl))⟩,
  f15 := Try.func66.trans (congrArg some (by kernel_rfl)),
  f20 := ⟨Try.f78.name, by decide, Try.func78.trans (congrArg some (by kernel_rfl))⟩,
  f21 := ⟨Try.f79.name, by decide, Try.func79.trans (congrArg some (by kernel_rfl))⟩,
  f22 := ⟨Try.f80.name, by decide, Try.func80.trans (congrArg some (by kernel_rfl))⟩,
  f23 := ⟨Try.f81.name, by decide, Try.func81.trans (congrArg some (by kernel_rfl))⟩,
  f24 := ⟨Try.f82.name, by decide, Try.func82.trans (congrArg some (by kernel_rfl))⟩,
  f25 := ⟨Try.f83.name, by decide, Try.func83.trans (congrArg some (by kernel_rfl))⟩,
  f26 := ⟨Try.f84.name, by decide, Try.func84.trans (congrArg some (by kernel_rfl))⟩,
  f27 := ⟨Try.f85.name, by decide, Try.func85.trans (congrArg some (by kernel_rfl))⟩,
  f28 := Try.func86.trans (congrArg some (by kernel_rfl)),
  f29 := Try.func87.trans (congrArg some (by kernel_rfl)),
  f46 := ⟨Try.f94.name, by decide, Try.func94.trans (congrArg some (by kernel_rfl))⟩,
  f47 := Try.func95.trans (congrArg some (by kernel_rfl)),
  f48 := Try.func96.trans (congrArg some (by kernel_rfl)),
  f49 := ⟨Try.f97.name, by decide, Try.func97.trans (congrArg some (by kernel_rfl))⟩,
  f50 := ⟨Try.f98.name, by decide, Try.func98.trans (congrArg some (by kernel_rfl))⟩,
  f57 := ⟨Try.f100.name, by decide, Try.func100.trans (congrArg some (by kernel_rfl))⟩,
  t0 := Try.underlying0,
  a0 := Try.isAgg0,
  z0 := Try.sizeOf0,
  v0 := Try.zeroValue0,
  t3 := Try.underlying3,
  a3 := Try.isAgg3,
  z3 := Try.sizeOf3,
  v3 := Try.zeroValue3,
  t4 := Try.underlying4,
  a4 := Try.isAgg4,
  z4 := Try.sizeOf4,
  v4 := Try.zeroValue4,
  t5 := Try.underlying5,
  a5 := Try.isAgg5,
  z5 := Try.sizeOf5,
  v5 := Try.zeroValue5,
  t9 := Try.underlying9,
  a9 := Try.isAgg9,
  z9 := Try.sizeOf9,
  v9 := Try.zeroValue9,
  t22 := Try.underlying23,
  a22 := Try.isAgg23,
  z22 := Try.sizeOf23,
  v22 := Try.zeroValue23,
  t25 := Try.underlying66,
  a25 := Try.isAgg66,
  z25 := Try.sizeOf66,
  v25 := Try.zeroValue66,
  t39 := Try.underlying83,
  a39 := Try.isAgg83,
  z39 := Try.sizeOf83,
  v39 := Try.zeroValue83,
  t45 := Try.underlying92,
  a45 := Try.isAgg92,
  z45 := Try.sizeOf92,
  v45 := Try.zeroValue92,
  t46 := Try.underlying93,
  a46 := Try.isAgg93,
  z46 := Try.sizeOf93,
  v46 := Try.zeroValue93,
  t50 := Try.underlying87,
  a50 := Try.isAgg87,
  z50 := Try.sizeOf87,
  v50 := Try.zeroValue87,
  t53 := Try.underlying99,
  a53 := Try.isAgg99,
  z53 := Try.sizeOf99,
  v53 := Try.zeroValue99,
  t55 := Try.underlying101,
  a55 := Try.isAgg101,
  z55 := Try.sizeOf101,
  v55 := Try.zeroValue101,
  t66 := Try.underlying105,
  a66 := Try.isAgg105,
  z66 := Try.sizeOf105,
  v66 := Try.zeroValue105,
  t70 := Try.underlying109,
  a70 := Try.isAgg109,
  z70 := Try.sizeOf109,
  v70 := Try.zeroValue109,
  t76 := Try.underlying111,
  a76 := Try.isAgg111,
  z76 := Try.sizeOf111,
  v76 := Try.zeroValue111,
  t77 := Try.underlying112,
  a77 := Try.isAgg112,
  z77 := Try.sizeOf112,
  v77 := Try.zeroValue112 }

set_option maxHeartbeats 1000000 in
theorem sort_cmp (x y : AInterval) (W : World) : Calls Try.prog 39 #[.agg #[.int .i64 x.Off, .int .i64 x.Size], .agg #[.int .i64 y.Off, .int .i64 y.Size]] W fun e w' => e = .returned (.int .i64 (Lib.compareInt x.Off y.Off)) ∧ ∃ q os', w' = grow (W.drewN q) os' := by
  have hc : ∀ (i j : Int) (W' : World), Calls Try.prog 40 #[.int .i64 i, .int .i64 j] W' fun e w' => e = .returned (.int .i64 (Lib.compareInt i j)) ∧ w' = W' := by
    intro i j W'
    by_cases h1 : i < j
    · go_enter Try.func40, Try.ntmps40
      go_wp2
      go_ret
      exact ⟨by unfold Lib.compareInt; rw [if_pos (show i < j by omega)]; rfl, rfl⟩
    · by_cases h2 : j < i
      · go_enter Try.func40, Try.ntmps40
        go_wp2
        go_ret
        exact ⟨by unfold Lib.compareInt; rw [if_neg (show ¬ i < j by omega), if_pos (show i > j by omega)]; rfl, rfl⟩
      · go_enter Try.func40, Try.ntmps40
        go_wp2
        go_ret
        exact ⟨by unfold Lib.compareInt; rw [if_neg (show ¬ i < j by omega), if_neg (show ¬ i > j by omega)]; rfl, rfl⟩
  have hcon := fun W' => hc x.Off y.Off W'
  clear hc
  generalize Lib.compareInt x.Off y.Off = r at hcon ⊢
  go_enter Try.func39, Try.ntmps39
  go_wp2_with (go_at_call 40; refine (hcon _).mono ?_; rintro e w' ⟨rfl, rfl⟩)
  go_ret
  exact ⟨rfl, 0, _, by rw [alloc_eq_grow, alloc_eq_grow, grow_grow]; rfl⟩
def cfOff (x y : AInterval) : Int := Lib.compareInt x.Off y.Off
theorem ltOff (x y : AInterval) : ltOf cfOff x y = decide (x.Off < y.Off) := by
  unfold ltOf cfOff Lib.compareInt
  by_cases h1 : x.Off < y.Off
  · simp [h1]
  · by_cases h2 : y.Off < x.Off <;> simp [h1, h2]
theorem swoOff : SWO (ltOf cfOff) where
  irrefl x := by rw [ltOff]; simp
  trans x y z h1 h2 := by rw [ltOff] at *; simp at *; omega
  ntrans x y z h1 h2 := by rw [ltOff] at *; simp at *; omega
theorem Q.sort_extent_Fit_2_ok : SortC Try.prog 38 (.func (.func 39) #[] #[]) row_AInterval 2 sort_extent_Fit_2 where
  fn := ⟨_, Try.func38, rfl, rfl⟩
  len l := by
    unfold sort_extent_Fit_2
    have h := (pdq_sorts (ltOf cfOff) swoOff l.toArray 0 l.length (Lib.bitLen l.length) true true (Nat.zero_le _) (by simp) (Or.inl rfl)).1.1
    rw [Array.length_toList]
    exact h.trans (by simp)
  row x := rfl
  sc x := rfl
  pos := by decide
  call w b cap l hH hb hl := by
    have eg : ∀ args w, (callFunc 39 args).run Try.prog w = .ok (.enter 39 args) w := enters_of Try.func39 (by kernel_rfl) rfl
    have h := AnyQ.slices_SortFunc_eq sort_lays 2 Try.isAgg33 Try.sizeOf33 (encS row_AInterval) (fun _ => rfl) (fun x v hv => by simp [encS, row_AInterval, TV.val0] at hv; rcases hv with rfl | rfl <;> rfl) cfOff swoOff 39 #[] b 0 cap l.toArray w eg (fun _ _ _ _ x y => sort_cmp x y _) hH hb (by simpa using hl)
    unfold sort_extent_Fit_2
    simp only [List.size_toArray, Array.toArray_toList] at h ⊢
    exact h
  none w := AnyF.slices_SortFunc_none sort_lays none 0 _ w
end Go.Proofs.Ytcmiokobfkaldaa
