/- The reference of sets: Add. -/
import Derived.Test.YtjfkdjlmajfljaaDoorRow
namespace Go.Proofs.YtjfkdjlmajfljaaDoor
open Go.ChangeShapes Go.WideShapes Go.ChangeAt Go.RowKit Go.Deep
def inB (n : Int) : Bool := decide (0 ≤ n) && decide (n < 512)
def insL (n : Int) : List Int → List Int
  | [] => [n]
  | a :: s => if n ≤ a then (if n < a then n :: a :: s else a :: s) else a :: insL n s
def addL (s : List Int) (n : Int) : List Int := if inB n then insL n s else s
def insD (d : Bool) (n : Int) (s : List Int) : List Int := if d then s else insL n s
theorem insL_length (n : Int) (s : List Int) : (insL n s).length ≤ s.length + 1 := by
  induction s with
  | nil => simp [insL]
  | cons a s ih => unfold insL; split
                   · split <;> simp
                   · simp; omega
theorem addL_length (s : List Int) (n : Int) : (addL s n).length ≤ s.length + 1 := by
  unfold addL
  split
  · exact insL_length n s
  · omega
theorem drop_at {l : List Int} {k : Nat} (h : k < l.length) : l.drop k = l[k] :: l.drop (k + 1) := List.drop_eq_getElem_cons h
theorem insD_true (n : Int) (s : List Int) : insD true n s = s := rfl
theorem insD_gt {n : Int} {l : List Int} {k : Nat} (h : k < l.length) (hn : n < l[k]) : insD false n (l.drop k) = n :: l[k] :: l.drop (k + 1) := by
  rw [drop_at h]; simp [insD, insL, hn, Int.le_of_lt hn]
theorem insD_eq {n : Int} {l : List Int} {k : Nat} (h : k < l.length) (hn : n = l[k]) : insD false n (l.drop k) = l[k] :: l.drop (k + 1) := by
  rw [drop_at h]; simp [insD, insL, hn]
theorem insD_lt {n : Int} {l : List Int} {k : Nat} (h : k < l.length) (hn : ¬ n ≤ l[k]) : insD false n (l.drop k) = l[k] :: insD false n (l.drop (k + 1)) := by
  rw [drop_at h]; simp [insD, insL, hn]
set_option maxHeartbeats 400000 in
theorem good_any (n : Int) (w : World) : Calls Tryd.prog 63 #[.int .i64 n] w fun e w' => e = .returned (.bool (inB n)) ∧ w = w' := by
  unfold inB
  by_cases h1 : 0 ≤ n
  · by_cases h2 : n < 512
    all_goals
      go_enter Tryd.func63, Tryd.ntmps63
      go_wp2
      go_ret
      simp [h1, h2]
  · go_enter Tryd.func63, Tryd.ntmps63
    go_wp2
    go_ret
    exact ⟨by simp; omega, rfl⟩
set_option maxHeartbeats 1000000 in
theorem rAdd_any (v : Value) (l : List Int) (n : Int) (w : World) (hv : Holds w (fun b => b < w.heap.size) 1 v l.length (l.map (Value.int .i64))) (hlen : l.length ≤ 100000) :
    Calls Tryd.prog 43 #[v, .int .i64 n] w fun e w' => (∃ r, e = .returned r ∧ Row w' w.heap.size r (addL l n)) ∧ Below w.heap.size w w' := by
  have HV := hide hv
  obtain ⟨A, c, rfl, hc1, hc2, _, _⟩ := hv
  unfold maxLen at hc2
  go_enter Tryd.func43, Tryd.ntmps43
  go_wp2_with (go_at_call 63; refine (good_any _ _).mono ?_; rintro e w' ⟨rfl, rfl⟩)
  go_loopw [5, 6, 7] (fun r d i wr => ∃ (out : List Int) (dn : Bool) (k : Nat), k ≤ l.length ∧ i = .int .i64 k ∧ d = .bool dn ∧ Hid (Row wr w.heap.size r out) ∧ Hid (Below w.heap.size w wr) ∧ Hid (out ++ insD dn n (l.drop k) = addL l n)) (fun _ _ i _ => l.length - (intOf i).toNat)
  case atStart =>
    refine ⟨[], !inB n, 0, by omega, rfl, by go_num, hide (Row.nil _ _), hide (Below.refl _ _), hide ?_⟩
    unfold addL insD
    cases inB n <;> simp
  case round =>
    obtain ⟨out, dn, k, hk, rfl, rfl, HO, HB, HE⟩ := hrel
    have hol : out.length ≤ 100001 := by
      have := congrArg List.length HE.out
      have h2 := addL_length l n
      simp at this
      omega
    by_cases hlt : k < l.length
    · have hd : (k : Int) < (l.length : Int) := by omega
      obtain ⟨b, o, rfl, hSb, hx⟩ := (HV.out.below HB.out (fun b h => h)).atInt hlt
      cases dn
      · by_cases hle : n ≤ l[k]
        · have hge : l[k] ≥ n := hle
          by_cases hlt2 : n < l[k]
          · go_wp2_with (at_builtin; refine app_int rfl _ _ rfl _ _ _ _ _ rfl rfl HO.out (by omega) HB.out.size ?_)
            rintro v' w' hr hkp
            have HR := hide hr
            have HBx := hide (below_app HB.out HO.out hkp)
            clear hr hkp
            have hx2 : w'.cell? ⟨b, o + k, none⟩ = some (.int .i64 l[k]) := by rw [Below.cell HBx.out hSb, ← Below.cell HB.out hSb]; exact hx
            clear hx
            go_wp2_with (at_builtin; refine app_int rfl _ _ rfl _ _ _ _ _ rfl rfl HR.out (by simp; omega) HBx.out.size ?_)
            rintro v'' w'' hr hkp
            have HR2 := hide hr
            have HB2 := hide (below_app HBx.out HR.out hkp)
            clear hr hkp
            go_wp2
            go_roundw
            case rel =>
              refine ⟨_, true, k + 1, by omega, by go_num, rfl, HR2, HB2, hide ?_⟩
              have := HE.out
              rw [insD_gt hlt hlt2] at this
              rw [insD_true, ← this]; simp
            case measure => simp only [intOf]; omega
          · have heq : Hid (n = l[k]) := hide (by omega)
            go_wp2_with (at_builtin; refine app_int rfl _ _ rfl _ _ _ _ _ rfl rfl HO.out (by omega) HB.out.size ?_)
            rintro v' w' hr hkp
            have HR := hide hr
            have HBx := hide (below_app HB.out HO.out hkp)
            clear hr hkp
            go_wp2
            go_roundw
            case rel =>
              refine ⟨_, true, k + 1, by omega, by go_num, rfl, HR, HBx, hide ?_⟩
              have := HE.out
              rw [insD_eq hlt heq.out] at this
              rw [insD_true, ← this]; simp
            case measure => simp only [intOf]; omega
        · have hge : ¬ l[k] ≥ n := hle
          go_wp2_with (at_builtin; refine app_int rfl _ _ rfl _ _ _ _ _ rfl rfl HO.out (by omega) HB.out.size ?_)
          rintro v' w' hr hkp
          have HR := hide hr
          have HBx := hide (below_app HB.out HO.out hkp)
          clear hr hkp
          go_wp2
          go_roundw
          case rel =>
            refine ⟨_, false, k + 1, by omega, by go_num, rfl, HR, HBx, hide ?_⟩
            have := HE.out
            rw [insD_lt hlt (by omega)] at this
            rw [← this]; simp
          case measure => simp only [intOf]; omega
      · go_wp2_with (at_builtin; refine app_int rfl _ _ rfl _ _ _ _ _ rfl rfl HO.out (by omega) HB.out.size ?_)
        rintro v' w' hr hkp
        have HR := hide hr
        have HBx := hide (below_app HB.out HO.out hkp)
        clear hr hkp
        go_wp2
        go_roundw
        case rel =>
          refine ⟨_, true, k + 1, by omega, by go_num, rfl, HR, HBx, hide ?_⟩
          have := HE.out
          rw [insD_true, drop_at hlt] at this
          rw [insD_true, ← this]; simp
        case measure => simp only [intOf]; omega
    · have hd : ¬ (k : Int) < (l.length : Int) := by omega
      have hkl : k = l.length := by omega
      cases dn
      · go_wp2_with (at_builtin; refine app_int rfl _ _ rfl _ _ _ _ _ rfl rfl HO.out (by omega) HB.out.size ?_)
        rintro v' w' hr hkp
        have HBx := hide (below_app HB.out HO.out hkp)
        have := HE.out
        rw [hkl, List.drop_length, show insD false n [] = [n] from rfl] at this
        rw [this] at hr
        have HR := hide hr
        clear hr hkp this
        go_wp2
        go_ret
        exact ⟨⟨_, rfl, HR.out⟩, HBx.out⟩
      · have := HE.out
        rw [hkl, List.drop_length, insD_true, List.append_nil] at this
        subst this
        go_wp2
        go_ret
        exact ⟨⟨_, rfl, HO.out⟩, HB.out⟩
end Go.Proofs.YtjfkdjlmajfljaaDoor
