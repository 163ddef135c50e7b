/- bitset.Within. -/
import Derived.Test.YtpjmpkgllnomaaaDoorSets
namespace Go.Proofs.YtpjmpkgllnomaaaDoor
open Go.ChangeShapes Go.WideShapes Go.ChangeAt Go.RowKit Go.Deep
set_option maxHeartbeats 1000000 in
theorem out_any (n : Int) (g c : Nat) (p : Nat → Bool) (w : World) (h : SetAt w g p) (hc : w.cell? ⟨c, 0, none⟩ = some (.pointer (some ⟨g, 0, none⟩))) :
    Calls Tryd.prog 40 #[.int .i64 n, .pointer (some ⟨c, 0, none⟩)] w fun e w' => e = .returned (.bool (!hasI p n)) ∧ w = w' := by
  have H := hide h
  clear h
  go_enter Tryd.func40, Tryd.ntmps40
  go_wp2_with (first | (go_at_call 38; refine (has_any _ _ _ _ H.out).mono ?_; rintro e w' ⟨rfl, rfl⟩))
  go_ret
  exact ⟨rfl, rfl⟩
set_option maxHeartbeats 1000000 in
theorem IndexFunc_out (v : Value) (l : List Int) (g c : Nat) (p : Nat → Bool) (S : Nat → Prop) (w : World) (hv : Holds w S 1 v l.length (l.map (Value.int .i64))) (h : SetAt w g p) (hc : w.cell? ⟨c, 0, none⟩ = some (.pointer (some ⟨g, 0, none⟩))) :
    Calls Tryd.prog 46 #[v, .func (.func 40) #[] #[.pointer (some ⟨c, 0, none⟩)]] w fun e w' => (∃ i : Int, e = .returned (.int .i64 i) ∧ (decide (0 ≤ i) = !l.all (hasI p))) ∧ w = w' := by
  have HV := hide hv
  have H := hide h
  have HC := hide hc
  clear h hc
  obtain ⟨A, cp, rfl, hc1, hc2, _, _⟩ := hv
  unfold maxLen at hc2
  go_enter Tryd.func46, Tryd.ntmps46
  go_wp2
  go_loop [8] (fun i => ∃ k : Nat, k ≤ l.length ∧ i = .int .i64 k ∧ Hid (∀ (j : Nat) (hj : j < l.length), j < k → hasI p l[j] = true)) (fun i => l.length - (intOf i).toNat)
  case atStart => exact ⟨0, by omega, rfl, hide (fun j _ h => by omega)⟩
  case round =>
    obtain ⟨k, hk, rfl, HO⟩ := hrel
    by_cases hlt : k < l.length
    · have hd : (k : Int) < (l.length : Int) := by omega
      obtain ⟨b, o, rfl, hSb, hx⟩ := HV.out.atInt hlt
      cases hok : hasI p l[k]
      · have hr : (!hasI p l[k]) = true := by simp [hok]
        have HR := hide hr
        clear hr
        go_wp2_with (go_at_call 40; refine (out_any _ _ _ _ _ H.out HC.out).mono ?_; rw [HR.out]; rintro e w2 ⟨rfl, rfl⟩)
        go_ret
        refine ⟨⟨k, rfl, ?_⟩, rfl⟩
        have : l.all (hasI p) = false := by
          rw [List.all_eq_false]
          exact ⟨l[k], List.getElem_mem hlt, by simp [hok]⟩
        rw [this]
        simp
      · have hr : (!hasI p l[k]) = false := by simp [hok]
        have HR := hide hr
        have HOK := hide hok
        clear hr hok
        go_wp2_with (go_at_call 40; refine (out_any _ _ _ _ _ H.out HC.out).mono ?_; rw [HR.out]; rintro e w2 ⟨rfl, rfl⟩)
        go_round
        case rel =>
          refine ⟨k + 1, by omega, by go_num, hide (fun j hj hjk => ?_)⟩
          by_cases hjk' : j = k
          · subst hjk'; exact HOK.out
          · exact HO.out j hj (by omega)
        case measure => simp only [intOf]; omega
    · have hd : ¬ (k : Int) < (l.length : Int) := by omega
      go_wp2
      go_ret
      refine ⟨⟨-1, rfl, ?_⟩, rfl⟩
      have : l.all (hasI p) = true := by
        rw [List.all_eq_true]
        intro s hs
        obtain ⟨j, hj, rfl⟩ := List.mem_iff_getElem.1 hs
        exact HO.out j hj (by omega)
      rw [this]
      rfl
set_option maxHeartbeats 1000000 in
theorem ContainsFunc_out (v : Value) (l : List Int) (g c : Nat) (p : Nat → Bool) (S : Nat → Prop) (w : World) (hv : Holds w S 1 v l.length (l.map (Value.int .i64))) (h : SetAt w g p) (hc : w.cell? ⟨c, 0, none⟩ = some (.pointer (some ⟨g, 0, none⟩))) :
    Calls Tryd.prog 39 #[v, .func (.func 40) #[] #[.pointer (some ⟨c, 0, none⟩)]] w fun e w' => e = .returned (.bool (!l.all (hasI p))) ∧ w = w' := by
  have HI := hide (IndexFunc_out v l g c p S w hv h hc)
  clear hv h hc
  go_enter Tryd.func39, Tryd.ntmps39
  go_wp2_with fail
  refine HI.out.mono ?_
  rintro e w1 ⟨⟨i, rfl, hi⟩, rfl⟩
  have HI2 := hide hi
  clear hi
  go_wp2
  go_ret
  exact ⟨by rw [← HI2.out]; rfl, rfl⟩
set_option maxHeartbeats 1000000 in
theorem Within_any (v u : Value) (l m : List Int) (w : World) (hv : Holds w (fun b => b < w.heap.size) 1 v l.length (l.map (Value.int .i64))) (hu : Holds w (fun b => b < w.heap.size) 1 u m.length (m.map (Value.int .i64))) :
    Calls Tryd.prog 29 #[v, u] w fun e w' => e = .returned (.bool (l.all (hasI (memP m)))) ∧ Below w.heap.size w w' := by
  have H := hide (of_any u m w hu)
  have HV := hide hv
  clear hv hu
  go_enter Tryd.func29, Tryd.ntmps29
  go_wp2_with fail
  refine H.out.mono ?_
  rintro e w1 ⟨rfl, hs, hb⟩
  have HS := hide hs
  have HB := hide hb
  clear hs hb
  have hg := WordsAt.lt HS.out
  have HBa := hide ((Below.refl w1.heap.size w1).alloc (Nat.le_refl _) (Obj.cells #[.pointer (some ⟨w.heap.size, 0, none⟩)] 60))
  have HSa := hide (HS.out.below HBa.out hg)
  have HVa := hide ((HV.out.below HB.out (fun b h => h)).below HBa.out (fun b h => by have := HB.out.size; omega))
  have HB2 := hide (HB.out.trans (HBa.out.mono HB.out.size))
  have HCc : Hid ((w1.alloc (Obj.cells #[.pointer (some ⟨w.heap.size, 0, none⟩)] 60)).cell? ⟨w1.heap.size, 0, none⟩ = some (.pointer (some ⟨w.heap.size, 0, none⟩))) := hide (by go_simp)
  go_wp2_with fail
  refine (ContainsFunc_out _ _ _ _ _ _ _ HVa.out HSa.out HCc.out).mono ?_
  rintro e w2 ⟨rfl, rfl⟩
  have HN : Hid ((!(!l.all (hasI (memP m)))) = l.all (hasI (memP m))) := hide (Bool.not_not _)
  go_wp2
  go_ret
  exact ⟨by rw [← HN.out]; rfl, HB2.out⟩
end Go.Proofs.YtpjmpkgllnomaaaDoor
