/- Sets in memory: with, by or, and, and-not. -/
import Derived.Test.YtjfkdjlmajfljaaDoorSetMem
import Derived.Deep.RegionHeld3
import Derived.Deep.DeepCutAuto
namespace Go.Proofs.YtjfkdjlmajfljaaDoor
open Go.ChangeShapes Go.WideShapes Go.ChangeAt Go.RowKit Go.Deep
theorem orF (a b : Int) (w : World) : Calls Tryd.prog 65 #[.int .u64 a, .int .u64 b] w fun e w' => e = .returned (.int .u64 (bits BinOp.or IntKind.u64 a b)) ∧ w' = w := by
  go_enter Tryd.func65, Tryd.ntmps65
  go_wp2
  go_ret
  exact ⟨rfl, rfl⟩
set_option maxHeartbeats 1000000 in
theorem with_or (s t : Nat) (p q : Nat → Bool) (w : World) (hs : SetAt w s p) (ht : SetAt w t q) :
    Calls Tryd.prog 64 #[.pointer (some ⟨s, 0, none⟩), .pointer (some ⟨t, 0, none⟩), .func (.func 65) #[] #[]] w fun e w' => e = .returned (.pointer (some ⟨w.heap.size, 0, none⟩)) ∧ SetAt w' w.heap.size (fun k => p k || q k) ∧ Below w.heap.size w w' := by
  have HS := hide hs
  have HT := hide ht
  have HN := hide (SetAt.new w)
  have hsl := WordsAt.lt hs
  have htl := WordsAt.lt ht
  clear hs ht
  go_enter Tryd.func64, Tryd.ntmps64
  go_wp2
  go_loopw [11] (fun i wr => ∃ k : Nat, k ≤ 8 ∧ i = .int .i64 k ∧ Hid (WordsAt wr w.heap.size (fun j => if j < k then wordOf (fun k => p k || q k) j else 0)) ∧ Hid (Below w.heap.size w wr)) (fun i _ => 8 - (intOf i).toNat)
  case atStart => exact ⟨0, by omega, rfl, hide (WordsAt.congr HN.out (fun j _ => by simp [wordOf_false])), hide ((Below.refl _ _).alloc (Nat.le_refl _) _)⟩
  case round =>
    obtain ⟨k, hk, rfl, HO, HB⟩ := hrel
    by_cases hlt : k < 8
    · have hd : (k : Int) < 8 := by omega
      have c1 := WordsAt.cell (HS.out.below HB.out hsl) hlt
      have c2 := WordsAt.cell (HT.out.below HB.out htl) hlt
      have c3 := WordsAt.cell HO.out hlt
      have hfz := WordsAt.frozen HO.out k
      have hgl := WordsAt.lt HO.out
      rw [if_neg (Nat.lt_irrefl k)] at c3
      have hne1 : s ≠ w.heap.size := by omega
      have hne2 : t ≠ w.heap.size := by omega
      go_wp2
      go_region_with (first | (go_at_call 65; refine (orF _ _ _).mono ?_; rintro e w' ⟨rfl, rfl⟩))
      all_goals
        have HF := hide (or_word p q k)
        have HO2 := hide ((HO.out.set hlt (wordOf (fun k => p k || q k) k)).drew)
        have HB2 := hide ((HB.out.trans (((Keeps.refl (fun b => b ≠ w.heap.size) wr).setCell (p := ⟨w.heap.size, k, none⟩) (.inl (fun h => h rfl)) (.int .u64 (wordOf (fun k => p k || q k) k))).below (B := w.heap.size) (fun b hb => by omega) HB.out.size)).drew)
        rw [← HF.out] at HO2 HB2
        clear hfz hgl hne1 hne2
        go_wp2
        go_roundw
        case rel =>
          refine ⟨k + 1, by omega, by go_num, hide (WordsAt.congr HO2.out (fun j _ => ?_)), HB2⟩
          by_cases e : j = k
          · subst e; simp
          · by_cases e2 : j < k
            · have : j < k + 1 := by omega
              simp [e, e2, this]
            · have : ¬ j < k + 1 := by omega
              simp [e, e2, this]
        case measure => simp only [intOf]; omega
    · have hd : ¬ (k : Int) < 8 := by omega
      have HE := hide (WordsAt.congr HO.out (W' := wordOf (fun k => p k || q k)) (fun j hj => by rw [if_pos (by omega)]))
      go_wp2
      go_ret
      exact ⟨rfl, HE.out, HB.out⟩
end Go.Proofs.YtjfkdjlmajfljaaDoor
