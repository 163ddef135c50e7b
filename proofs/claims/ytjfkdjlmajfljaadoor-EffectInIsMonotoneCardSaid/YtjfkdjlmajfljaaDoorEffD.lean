/- Chapter 15: EffectIn and EffectInIsMonotone. -/
import Derived.Test.YtjfkdjlmajfljaaDoorEffC
set_option linter.unusedSimpArgs false
set_option linter.unusedVariables false
set_option maxRecDepth 2000
namespace Go.Proofs.YtjfkdjlmajfljaaDoor
open Go.RowKit
theorem rfSameR (l : List Int) : FCalls Tryd.prog 23 [] [setA l, setA l] (bS true) [] [] := by
  have := rfSame l l
  rwa [show decide (l = l) = true by simp] at this
theorem set15_set (cs : List Int) (p : Nat) : IsSet (set15 cs p).1 := setF_set _ _ _ IsSet.nil
theorem take_codes {cs : List Int} (h : isCodes cs) (n : Nat) : isCodes (cs.take n) := fun c hc => h c (List.mem_of_mem_take hc)
theorem mem_inL {o a b x : Int} {s : List Int} : x ∈ inL o a b s ↔ (x ∈ s ∧ (defB o = true → x ≠ a)) ∨ (x ∈ useL o b ∧ inB x = true) := by
  unfold inL unionL
  rw [mem_foldl]
  cases h : defB o
  · simp
  · simp [remL]
theorem inL_union {o a b : Int} {s t : List Int} (hs : IsSet s) : inL o a b (unionL s t) = unionL (inL o a b s) (inL o a b t) := by
  refine asc_eq (IsSet.inL (IsSet.union hs)).1 (IsSet.union (IsSet.inL hs)).1 fun x => ?_
  have e1 : ∀ y, y ∈ unionL s t ↔ y ∈ s ∨ (y ∈ t ∧ inB y = true) := fun y => mem_foldl
  have e2 : x ∈ unionL (inL o a b s) (inL o a b t) ↔ x ∈ inL o a b s ∨ (x ∈ inL o a b t ∧ inB x = true) := mem_foldl
  rw [e2, mem_inL, mem_inL, mem_inL, e1]
  constructor
  · rintro (⟨h1 | ⟨h1, h2⟩, h3⟩ | ⟨h1, h2⟩)
    · exact .inl (.inl ⟨h1, h3⟩)
    · exact .inr ⟨.inl ⟨h1, h3⟩, h2⟩
    · exact .inl (.inr ⟨h1, h2⟩)
  · rintro ((⟨h1, h3⟩ | ⟨h1, h2⟩) | ⟨⟨h1, h3⟩ | ⟨h1, h2⟩, h4⟩)
    · exact .inl ⟨.inl h1, h3⟩
    · exact .inr ⟨h1, h2⟩
    · exact .inl ⟨.inr ⟨h1, h4⟩, h3⟩
    · exact .inr ⟨h1, h2⟩
theorem inL_meet {o a b : Int} {s t : List Int} : withinL (inL o a b (meetL s t)) (inL o a b s) = true := by
  rw [withinL_iff, List.all_eq_true]
  intro x hx
  unfold hasL
  rw [List.contains_iff_mem]
  rw [mem_inL] at hx ⊢
  rcases hx with ⟨h1, h2⟩ | h1
  · exact .inl ⟨(List.mem_filter.1 h1).1, h2⟩
  · exact .inr h1
theorem EffectIn_f (cs : List Int) (hcs : isCodes cs) (hl : cs.length ≤ 9223372036854775807) : FCalls Tryd.prog 4 [] [.c (.v (.tree (cs.map bRow)))] (bS true) [] [] := by
  have k1 := take_codes hcs (60 : Int).toNat
  have k2 : (cs.take (60 : Int).toNat).length ≤ 1000 := by rw [List.length_take]; omega
  have h0 : 0 ≤ (cs.take (60 : Int).toNat).length := Nat.zero_le _
  have h1 := nxP_le (n := 9) (nxP_le (n := 9) (nxP_le (n := 8) h0))
  have hS := set15_set (cs.take (60 : Int).toNat) (nxP (cs.take (60 : Int).toNat) (nxP (cs.take (60 : Int).toNat) (nxP (cs.take (60 : Int).toNat) 0 8) 9) 9)
  have hSl := hS.length
  refine fnOf 29 Tryd.func4 rfl rfl rfl rfl rfl rfl ?_
  (repeat' (first | (first | refine V.seq ?_ | refine V.region rfl ?_ | refine V.drawn ?_ | refine G.nil rfl ?_ | refine G.nilD (by kernel_rfl) ?_ | refine E.thnV ?_ | refine V.skip ?_ | refine V.ret ?_ | refine V.exit ?_ | refine V.block ?_ | refine E.thnE ?_ | refine E.thnR ?_ | refine E.blkN ?_ | refine E.blkR ?_ | refine E.blkE ?_ | refine E.blkF rfl ?_ | refine E.retN ?_ | refine E.retR ?_ | (apply V.condT; exact rfl; (first | with_reducible assumption | with_reducible rfl)) | (apply V.condF; exact rfl; (first | with_reducible assumption | with_reducible rfl)) | (refine V.cond rfl (fun vh => ?_) (fun vh => ?_) <;> (have vf := vh; try simp only [decide_eq_true_eq, decide_eq_false_iff_not, Bool.not_eq_true', Bool.not_eq_false', Bool.not_true, Bool.not_false, Bool.true_eq_false, Bool.false_eq_true, Int.not_lt, Int.not_le, ite_true, ite_false] at vf))) | (first | (apply G.guardU; exact rfl; exact rfl; exact rfl) | (apply G.guardT; exact rfl; exact rfl; (first | with_reducible assumption | with_reducible rfl); exact rfl) | (apply G.guardF1; exact rfl; exact rfl; (first | with_reducible assumption | with_reducible rfl); exact rfl) | (apply G.guardF0; exact rfl; exact rfl; (first | with_reducible assumption | with_reducible rfl); exact rfl) | ((apply G.guardS; exact rfl; exact rfl; exact rfl) <;> (intro vh; (have vf := vh; try simp only [decide_eq_true_eq, decide_eq_false_iff_not, Bool.not_eq_true', Bool.not_eq_false', Bool.not_true, Bool.not_false, Bool.true_eq_false, Bool.false_eq_true, Int.not_lt, Int.not_le, ite_true, ite_false] at vf))) | ((apply G.guardR; exact rfl; exact rfl; exact rfl) <;> (intro vh; (have vf := vh; try simp only [decide_eq_true_eq, decide_eq_false_iff_not, Bool.not_eq_true', Bool.not_eq_false', Bool.not_true, Bool.not_false, Bool.true_eq_false, Bool.false_eq_true, Int.not_lt, Int.not_le, ite_true, ite_false] at vf))) | (apply G.pickT; (first | with_reducible assumption | with_reducible rfl); exact rfl; exact (rfl : _ = bS _); exact rfl) | (apply G.pickF; (first | with_reducible assumption | with_reducible rfl); exact rfl; exact (rfl : _ = bS _); exact rfl) | (apply G.pickB; exact rfl; exact rfl; exact rfl; exact rfl)) | (first | (apply G.step; exact rfl; exact rfl; first | exact True.intro | omega) | refine G.lenTM rfl rfl rfl rfl ?_ | refine G.lenMM rfl rfl rfl rfl rfl ?_ | refine G.lenN rfl rfl rfl rfl ?_ | refine G.lenT rfl rfl rfl rfl ?_ | refine G.lenM rfl rfl rfl rfl rfl ?_ | (apply U.idxT; exact rfl; exact rfl; (first | with_reducible rfl | exact (Int.toNat_of_nonneg (by omega)).symm); exact List.getElem?_eq_getElem (by omega); exact rfl; exact rfl; exact rfl; exact rfl; exact rfl) | (apply U.idxM; exact rfl; exact rfl; exact rfl; (first | with_reducible rfl | exact (Int.toNat_of_nonneg (by omega)).symm); (simp only [List.length_map, List.length_replicate, List.length_append, List.length_set, List.length_singleton, List.length_cons, List.length_nil]; omega); exact rfl; exact rfl; exact rfl; exact rfl; exact rfl) | (apply U.idxA; exact rfl; exact rfl; exact rfl; (first | with_reducible rfl | exact (Int.toNat_of_nonneg (by omega)).symm); exact rfl; exact rfl; exact rfl; omega; exact rfl) | refine G.loadSlM rfl rfl (by omega) rfl rfl rfl ?_ | refine G.field rfl rfl rfl rfl rfl rfl rfl ?_ | refine G.build rfl rfl rfl rfl rfl rfl rfl ?_ | refine U.buildSlice rfl rfl rfl rfl rfl rfl rfl rfl rfl rfl rfl rfl rfl ?_ | refine U.app1 rfl rfl rfl rfl rfl rfl rfl rfl rfl rfl rfl rfl rfl rfl rfl (by omega) rfl rfl ?_ | (apply U.appT; exact rfl; exact rfl; exact rfl; exact rfl; exact rfl; exact rfl; exact fun _ => rfl; exact rfl; exact rfl; exact rfl; exact rfl; omega; exact rfl; exact rfl) | refine U.alloc rfl rfl rfl rfl rfl ?_ | refine U.box rfl rfl rfl rfl rfl rfl ?_ | (apply U.convI; exact rfl; exact rfl; exact rfl; omega; exact rfl) | (apply U.convU; exact rfl; exact rfl; exact rfl; omega; exact rfl) | refine G.storeBx rfl rfl rfl rfl rfl rfl rfl rfl ?_ | (apply U.sliceTo; exact rfl; exact rfl; (first | with_reducible rfl | exact (Int.toNat_of_nonneg (by omega)).symm); omega; exact rfl; exact rfl; exact rfl; exact fun _ => rfl; exact rfl) | refine G.max rfl rfl rfl ?_ | refine G.min rfl rfl rfl ?_) | refine U.call awake15 rfl rfl ?_ | refine U.callNew rfl (New_f _ _ (by omega) hl) rfl rfl rfl ?_ | refine U.callS1 (b := 0) (instr15 _ _ k1 k2 h0) rfl rfl rfl rfl rfl ?_ | refine U.call1 (b := 0) (set15_f _ _ k1 k2 h1) rfl rfl rfl ?_ | refine U.call (eIn _ _ _ _ _ _ hS) rfl rfl ?_ | refine U.call (rIn _ _ _ _ _ _ (by omega)) rfl rfl ?_ | refine U.call (rfSameR _) rfl rfl ?_ | refine U.callO (b := 2) (rfSameR _) rfl rfl rfl ?_))
  exact ret1 rfl rfl trivial
theorem rfSameE (l m : List Int) (h : l = m) : FCalls Tryd.prog 23 [] [setA l, setA m] (bS true) [] [] := by
  subst h
  exact rfSameR l
theorem rfWithinT (l m : List Int) (hl : l.length ≤ 100000) (h : withinL l m = true) : FCalls Tryd.prog 27 [] [setA l, setA m] (bS true) [] [] := by
  have := rfWithin l m hl
  rwa [h] at this
theorem EffectInIsMonotone_f (cs : List Int) (hcs : isCodes cs) (hl : cs.length ≤ 9223372036854775807) : FCalls Tryd.prog 5 [] [.c (.v (.tree (cs.map bRow)))] (bS true) [] [] := by
  have k1 := take_codes hcs (80 : Int).toNat
  have k2 : (cs.take (80 : Int).toNat).length ≤ 1000 := by rw [List.length_take]; omega
  have h0 : 0 ≤ (cs.take (80 : Int).toNat).length := Nat.zero_le _
  have h1 := nxP_le (n := 9) (nxP_le (n := 9) (nxP_le (n := 8) h0))
  have h2 : (set15 (cs.take (80 : Int).toNat) (nxP (cs.take (80 : Int).toNat) (nxP (cs.take (80 : Int).toNat) (nxP (cs.take (80 : Int).toNat) 0 8) 9) 9)).2 ≤ (cs.take (80 : Int).toNat).length := setF_le _ _ _ (nxP_le h1)
  have hS := set15_set (cs.take (80 : Int).toNat) (nxP (cs.take (80 : Int).toNat) (nxP (cs.take (80 : Int).toNat) (nxP (cs.take (80 : Int).toNat) 0 8) 9) 9)
  have hT := set15_set (cs.take (80 : Int).toNat) (set15 (cs.take (80 : Int).toNat) (nxP (cs.take (80 : Int).toNat) (nxP (cs.take (80 : Int).toNat) (nxP (cs.take (80 : Int).toNat) 0 8) 9) 9)).2
  have hSl : _ ≤ 40000 := Nat.le_trans hS.length (by omega)
  have hTl : _ ≤ 40000 := Nat.le_trans hT.length (by omega)
  have hSm : _ ≤ 100000 := Nat.le_trans hS.length (by omega)
  have hlen : ∀ {s : List Int}, IsSet s → s.length ≤ 40000 := fun h => Nat.le_trans h.length (by omega)
  have hlenm : ∀ {s : List Int}, IsSet s → s.length ≤ 100000 := fun h => Nat.le_trans h.length (by omega)
  refine fnOf 43 Tryd.func5 rfl rfl rfl rfl rfl rfl ?_
  (repeat' (first | (first | refine V.seq ?_ | refine V.region rfl ?_ | refine V.drawn ?_ | refine G.nil rfl ?_ | refine G.nilD (by kernel_rfl) ?_ | refine E.thnV ?_ | refine V.skip ?_ | refine V.ret ?_ | refine V.exit ?_ | refine V.block ?_ | refine E.thnE ?_ | refine E.thnR ?_ | refine E.blkN ?_ | refine E.blkR ?_ | refine E.blkE ?_ | refine E.blkF rfl ?_ | refine E.retN ?_ | refine E.retR ?_ | (apply V.condT; exact rfl; (first | with_reducible assumption | with_reducible rfl)) | (apply V.condF; exact rfl; (first | with_reducible assumption | with_reducible rfl)) | (refine V.cond rfl (fun vh => ?_) (fun vh => ?_) <;> (have vf := vh; try simp only [decide_eq_true_eq, decide_eq_false_iff_not, Bool.not_eq_true', Bool.not_eq_false', Bool.not_true, Bool.not_false, Bool.true_eq_false, Bool.false_eq_true, Int.not_lt, Int.not_le, ite_true, ite_false] at vf))) | (first | (apply G.guardU; exact rfl; exact rfl; exact rfl) | (apply G.guardT; exact rfl; exact rfl; (first | with_reducible assumption | with_reducible rfl); exact rfl) | (apply G.guardF1; exact rfl; exact rfl; (first | with_reducible assumption | with_reducible rfl); exact rfl) | (apply G.guardF0; exact rfl; exact rfl; (first | with_reducible assumption | with_reducible rfl); exact rfl) | ((apply G.guardS; exact rfl; exact rfl; exact rfl) <;> (intro vh; (have vf := vh; try simp only [decide_eq_true_eq, decide_eq_false_iff_not, Bool.not_eq_true', Bool.not_eq_false', Bool.not_true, Bool.not_false, Bool.true_eq_false, Bool.false_eq_true, Int.not_lt, Int.not_le, ite_true, ite_false] at vf))) | ((apply G.guardR; exact rfl; exact rfl; exact rfl) <;> (intro vh; (have vf := vh; try simp only [decide_eq_true_eq, decide_eq_false_iff_not, Bool.not_eq_true', Bool.not_eq_false', Bool.not_true, Bool.not_false, Bool.true_eq_false, Bool.false_eq_true, Int.not_lt, Int.not_le, ite_true, ite_false] at vf))) | (apply G.pickT; (first | with_reducible assumption | with_reducible rfl); exact rfl; exact (rfl : _ = bS _); exact rfl) | (apply G.pickF; (first | with_reducible assumption | with_reducible rfl); exact rfl; exact (rfl : _ = bS _); exact rfl) | (apply G.pickB; exact rfl; exact rfl; exact rfl; exact rfl)) | (first | (apply G.step; exact rfl; exact rfl; first | exact True.intro | omega) | refine G.lenTM rfl rfl rfl rfl ?_ | refine G.lenMM rfl rfl rfl rfl rfl ?_ | refine G.lenN rfl rfl rfl rfl ?_ | refine G.lenT rfl rfl rfl rfl ?_ | refine G.lenM rfl rfl rfl rfl rfl ?_ | (apply U.idxT; exact rfl; exact rfl; (first | with_reducible rfl | exact (Int.toNat_of_nonneg (by omega)).symm); exact List.getElem?_eq_getElem (by omega); exact rfl; exact rfl; exact rfl; exact rfl; exact rfl) | (apply U.idxM; exact rfl; exact rfl; exact rfl; (first | with_reducible rfl | exact (Int.toNat_of_nonneg (by omega)).symm); (simp only [List.length_map, List.length_replicate, List.length_append, List.length_set, List.length_singleton, List.length_cons, List.length_nil]; omega); exact rfl; exact rfl; exact rfl; exact rfl; exact rfl) | (apply U.idxA; exact rfl; exact rfl; exact rfl; (first | with_reducible rfl | exact (Int.toNat_of_nonneg (by omega)).symm); exact rfl; exact rfl; exact rfl; omega; exact rfl) | refine G.loadSlM rfl rfl (by omega) rfl rfl rfl ?_ | refine G.field rfl rfl rfl rfl rfl rfl rfl ?_ | refine G.build rfl rfl rfl rfl rfl rfl rfl ?_ | refine U.buildSlice rfl rfl rfl rfl rfl rfl rfl rfl rfl rfl rfl rfl rfl ?_ | refine U.app1 rfl rfl rfl rfl rfl rfl rfl rfl rfl rfl rfl rfl rfl rfl rfl (by omega) rfl rfl ?_ | (apply U.appT; exact rfl; exact rfl; exact rfl; exact rfl; exact rfl; exact rfl; exact fun _ => rfl; exact rfl; exact rfl; exact rfl; exact rfl; omega; exact rfl; exact rfl) | refine U.alloc rfl rfl rfl rfl rfl ?_ | refine U.box rfl rfl rfl rfl rfl rfl ?_ | (apply U.convI; exact rfl; exact rfl; exact rfl; omega; exact rfl) | (apply U.convU; exact rfl; exact rfl; exact rfl; omega; exact rfl) | refine G.storeBx rfl rfl rfl rfl rfl rfl rfl rfl ?_ | (apply U.sliceTo; exact rfl; exact rfl; (first | with_reducible rfl | exact (Int.toNat_of_nonneg (by omega)).symm); omega; exact rfl; exact rfl; exact rfl; exact fun _ => rfl; exact rfl) | refine G.max rfl rfl rfl ?_ | refine G.min rfl rfl rfl ?_) | refine U.call awake15 rfl rfl ?_ | refine U.callNew rfl (New_f _ _ (by omega) hl) rfl rfl rfl ?_ | refine U.callS1 (b := 0) (instr15 _ _ k1 k2 h0) rfl rfl rfl rfl rfl ?_ | refine U.call1 (b := 0) (set15_f _ _ k1 k2 h1) rfl rfl rfl ?_ | refine U.call1 (b := 0) (set15_f _ _ k1 k2 h2) rfl rfl rfl ?_ | refine U.call (rfUnion _ _ hSl hTl) rfl rfl ?_ | refine U.call (rfMeet _ _ hSm) rfl rfl ?_ | refine U.call (eIn _ _ _ _ _ _ (IsSet.union hS)) rfl rfl ?_ | refine U.call (eIn _ _ _ _ _ _ (hS.filter _)) rfl rfl ?_ | refine U.call (eIn _ _ _ _ _ _ hS) rfl rfl ?_ | refine U.call (eIn _ _ _ _ _ _ hT) rfl rfl ?_ | refine U.call (rfUnion _ _ (hlen (IsSet.inL hS)) (hlen (IsSet.inL hT))) rfl rfl ?_ | refine U.call (rfSameE _ _ (inL_union hS)) rfl rfl ?_ | refine U.call (rfWithinT _ _ (hlenm (IsSet.inL (hS.filter _))) inL_meet) rfl rfl ?_))
  exact ret1 rfl rfl trivial

theorem law_EffectIn (v : Value) (cs : List Int) (w : World) (hv : Holds w (fun b => b < w.heap.size) 1 v cs.length (cs.map (Value.int .u8))) (hcs : ∀ z ∈ cs, 0 ≤ z ∧ z ≤ 255) (hT : Tab w) :
    Calls Tryd.prog 4 #[v] w fun e w' => e = .returned (.bool true) ∧ Below w.heap.size w w' :=
  law_close (EffectIn_f cs hcs (by have := hv.le; simp only [maxLen] at this; omega)) (fun _ => hT) rfl (argsC hv fun _ h => h)
theorem law_EffectInIsMonotone (v : Value) (cs : List Int) (w : World) (hv : Holds w (fun b => b < w.heap.size) 1 v cs.length (cs.map (Value.int .u8))) (hcs : ∀ z ∈ cs, 0 ≤ z ∧ z ≤ 255) (hT : Tab w) :
    Calls Tryd.prog 5 #[v] w fun e w' => e = .returned (.bool true) ∧ Below w.heap.size w w' :=
  law_close (EffectInIsMonotone_f cs hcs (by have := hv.le; simp only [maxLen] at this; omega)) (fun _ => hT) rfl (argsC hv fun _ h => h)
end Go.Proofs.YtjfkdjlmajfljaaDoor
