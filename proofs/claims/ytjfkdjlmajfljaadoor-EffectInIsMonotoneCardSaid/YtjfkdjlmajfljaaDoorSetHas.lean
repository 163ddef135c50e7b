/- The reference of sets: Has, Remove. -/
import Derived.Test.YtjfkdjlmajfljaaDoorSetAdd
namespace Go.Proofs.YtjfkdjlmajfljaaDoor
open Go.ChangeShapes Go.WideShapes Go.ChangeAt Go.RowKit Go.Deep
def remL (l : List Int) (n : Int) : List Int := l.filter (fun x => x != n)
def hasL (l : List Int) (n : Int) : Bool := l.contains n
def meetL (a b : List Int) : List Int := a.filter (fun x => hasL b x)
def minusL (a b : List Int) : List Int := a.filter (fun x => !hasL b x)
def unionL (a b : List Int) : List Int := b.foldl addL a
def ofL (l : List Int) : List Int := l.foldl addL []
theorem filter_take_yes {p : Int → Bool} {l : List Int} {k : Nat} (h : k < l.length) (hp : p l[k] = true) : (l.take (k + 1)).filter p = (l.take k).filter p ++ [l[k]] := by
  rw [List.take_succ_eq_append_getElem h, List.filter_append]; simp [hp]
theorem filter_take_no {p : Int → Bool} {l : List Int} {k : Nat} (h : k < l.length) (hp : p l[k] = false) : (l.take (k + 1)).filter p = (l.take k).filter p := by
  rw [List.take_succ_eq_append_getElem h, List.filter_append]; simp [hp]
theorem filter_take_all {p : Int → Bool} {l : List Int} {k : Nat} (hk : k ≤ l.length) (h : ¬ k < l.length) : (l.take k).filter p = l.filter p := by rw [List.take_of_length_le (by omega)]
theorem filter_take_le {p : Int → Bool} {l : List Int} {k : Nat} : ((l.take k).filter p).length ≤ l.length := Nat.le_trans (List.length_filter_le _ _) (by simp; omega)
theorem foldl_take_succ {f : List Int → Int → List Int} {a : List Int} {l : List Int} {k : Nat} (h : k < l.length) : (l.take (k + 1)).foldl f a = f ((l.take k).foldl f a) l[k] := by
  rw [List.take_succ_eq_append_getElem h, List.foldl_append]; rfl
theorem foldl_addL_length (l a : List Int) : (l.foldl addL a).length ≤ a.length + l.length := by
  induction l generalizing a with
  | nil => simp
  | cons x l ih => have := ih (addL a x); have := addL_length a x; simp; omega
set_option maxHeartbeats 400000 in
theorem rHas_any (v : Value) (l : List Int) (n : Int) (S : Nat → Prop) (w : World) (hv : Holds w S 1 v l.length (l.map (Value.int .i64))) :
    Calls Tryd.prog 32 #[v, .int .i64 n] w fun e w' => e = .returned (.bool (hasL l n)) ∧ w = w' := by
  have HV := hide hv
  obtain ⟨A, c, rfl, hc1, hc2, _, _⟩ := hv
  unfold maxLen at hc2
  go_enter Tryd.func32, Tryd.ntmps32
  go_wp2
  go_loop [5] (fun i => ∃ k : Nat, k ≤ l.length ∧ i = .int .i64 k ∧ Hid (hasL (l.take k) n = false)) (fun i => l.length - (intOf i).toNat)
  case atStart => exact ⟨0, by omega, rfl, hide (by simp [hasL])⟩
  case round =>
    obtain ⟨k, hk, rfl, HN⟩ := hrel
    by_cases hlt : k < l.length
    · have hd : (k : Int) < (l.length : Int) := by omega
      obtain ⟨b, o, rfl, hSb, hx⟩ := HV.out.atInt hlt
      cases he : (l[k] == n)
      · have HX := hide he
        go_wp2
        go_round
        case rel =>
          refine ⟨k + 1, by omega, by go_num, hide ?_⟩
          have h1 := HN.out
          unfold hasL at h1 ⊢
          rw [List.take_succ_eq_append_getElem hlt, List.contains_append, h1]
          simpa using fun e => by have := HX.out; simp at this; exact this e.symm
        case measure => simp only [intOf]; omega
      · have hc : Hid (hasL l n = true) := hide (by simp at he; subst he; simp [hasL])
        go_wp2
        go_ret
        exact ⟨by rw [hc.out]; rfl, rfl⟩
    · have hd : ¬ (k : Int) < (l.length : Int) := by omega
      have hc : Hid (hasL l n = false) := hide (by have := HN.out; rwa [List.take_of_length_le (by omega)] at this)
      go_wp2
      go_ret
      exact ⟨by rw [hc.out]; rfl, rfl⟩
set_option maxHeartbeats 1000000 in
theorem rRemove_any (v : Value) (l : List Int) (n : Int) (w : World) (hv : Holds w (fun b => b < w.heap.size) 1 v l.length (l.map (Value.int .i64))) (hlen : l.length ≤ 100000) :
    Calls Tryd.prog 50 #[v, .int .i64 n] w fun e w' => (∃ r, e = .returned r ∧ Row w' w.heap.size r (remL l n)) ∧ Below w.heap.size w w' := by
  have HV := hide hv
  obtain ⟨A, c, rfl, hc1, hc2, _, _⟩ := hv
  unfold maxLen at hc2
  go_enter Tryd.func50, Tryd.ntmps50
  go_wp2
  go_loopw [5, 6] (fun r i wr => ∃ (k : Nat), k ≤ l.length ∧ i = .int .i64 k ∧ Hid (Row wr w.heap.size r (remL (l.take k) n)) ∧ Hid (Below w.heap.size w wr)) (fun _ i _ => l.length - (intOf i).toNat)
  case atStart => exact ⟨0, by omega, rfl, hide (Row.nil _ _), hide (Below.refl _ _)⟩
  case round =>
    obtain ⟨k, hk, rfl, HO, HB⟩ := hrel
    by_cases hlt : k < l.length
    · have hd : (k : Int) < (l.length : Int) := by omega
      obtain ⟨b, o, rfl, hSb, hx⟩ := (HV.out.below HB.out (fun b h => h)).atInt hlt
      cases he : (l[k] != n)
      · have HX := hide he
        go_wp2
        go_roundw
        case rel =>
          refine ⟨k + 1, by omega, by go_num, ?_, HB⟩
          unfold remL; rw [filter_take_no hlt HX.out]; exact HO
        case measure => simp only [intOf]; omega
      · have HX := hide he
        go_wp2_with (at_builtin; refine app_int rfl _ _ rfl _ _ _ _ _ rfl rfl HO.out (Nat.le_trans filter_take_le (by omega)) HB.out.size ?_)
        rintro v' w' hr hkp
        have HR := hide hr
        have HBx := hide (below_app HB.out HO.out hkp)
        clear hr hkp
        go_wp2
        go_roundw
        case rel =>
          refine ⟨k + 1, by omega, by go_num, ?_, HBx⟩
          unfold remL; rw [filter_take_yes hlt HX.out]; exact HR
        case measure => simp only [intOf]; omega
    · have hd : ¬ (k : Int) < (l.length : Int) := by omega
      go_wp2
      go_ret
      exact ⟨⟨_, rfl, by have := HO.out; unfold remL at this; rwa [filter_take_all hk hlt] at this⟩, HB.out⟩
end Go.Proofs.YtjfkdjlmajfljaaDoor
