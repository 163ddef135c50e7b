/- Which instructions are kept, and the renaming that changes nothing: plain facts. -/
import Derived.Test.YtlhaoijkffhafaaDoorP21c
set_option linter.unusedVariables false
set_option linter.unusedSimpArgs false
namespace Go.Proofs.YtlhaoijkffhafaaDoor.Q
/-- The kept ones among the first m. -/
def keptL (keep : List Bool) : Nat → List Int
  | 0 => []
  | m + 1 => keptL keep m ++ (if atD keep m = true then [(m : Int)] else [])
theorem keptL_length (keep : List Bool) : ∀ m, ((keptL keep m).length : Int) = cntK keep m
  | 0 => rfl
  | m + 1 => by
    have := keptL_length keep m
    unfold keptL cntK
    rw [List.length_append]
    split <;> simp <;> omega
theorem cntK_succ (keep : List Bool) (m : Nat) : cntK keep (m + 1) = cntK keep m + (if atD keep m = true then 1 else 0) := rfl
section
variable {f : AFunc} {keep : List Bool} {nums pl : List Int}
/-- The n-th kept one. -/
theorem kept_at : ∀ {m : Nat} {t : Int}, inN t (cntK keep m) → inN (atD (keptL keep m) t) m ∧ atD keep (atD (keptL keep m) t) = true ∧ cntK keep (atD (keptL keep m) t).toNat = t ∧ atD (codeOf f keep nums pl m) t = retI (renI (atD f.Code (atD (keptL keep m) t)) nums) pl
  | 0, t, h => by
    have h1 := h.1
    have h2 := h.2
    change t < 0 at h2
    omega
  | m + 1, t, h => by
    obtain ⟨h1, h2⟩ := h
    have hl := keptL_length keep m
    have hcl := codeOf_length (f := f) keep nums pl m
    rw [cntK_succ] at h2
    unfold keptL codeOf
    by_cases ht : t < cntK keep m
    · rw [atD_append_left (by omega), atD_append_left (by omega)]
      obtain ⟨⟨q1, q2⟩, q3, q4, q5⟩ := kept_at (m := m) ⟨h1, ht⟩
      exact ⟨⟨q1, by omega⟩, q3, q4, q5⟩
    · split at h2
      · rename_i hk
        have hte : t = cntK keep m := by omega
        rw [if_pos hk, if_pos hk, atD_last (by omega), atD_last (by omega)]
        exact ⟨⟨by omega, by omega⟩, hk, by rw [Int.toNat_natCast, hte], rfl⟩
      · omega
/-- The kept ones in front of a place lie before it, those behind it do not. -/
theorem kept_order {m : Nat} {t k : Int} (ht : inN t (cntK keep m)) (hk : 0 ≤ k) : (t < cntK keep k.toNat → atD (keptL keep m) t < k) ∧ (cntK keep k.toNat ≤ t → k ≤ atD (keptL keep m) t) := by
  obtain ⟨⟨q1, q2⟩, q3, q4, _⟩ := kept_at (f := default) (nums := []) (pl := []) ht
  generalize atD (keptL keep m) t = x at *
  constructor
  · intro h
    have hn : ¬ k ≤ x := fun hx => by
      have := cntK_mono keep (a := k.toNat) (b := x.toNat) (by omega)
      omega
    omega
  · intro h
    have hn : ¬ x < k := fun hx => by
      have h1 := cntK_mono keep (a := x.toNat + 1) (b := k.toNat) (by omega)
      rw [cntK_succ, Int.toNat_of_nonneg q1, if_pos q3] at h1
      omega
    omega
end
/-! ### The renaming that changes nothing -/
def iotaL (n : Nat) : List Int := (List.range n).map fun k : Nat => (k : Int)
theorem iotaL_len (n : Nat) : (iotaL n).length = n := by simp [iotaL]
theorem iotaL_at {n : Nat} {k : Int} (h : inN k n) : atD (iotaL n) k = k := by
  obtain ⟨h1, h2⟩ := h
  have h3 : k.toNat < (iotaL n).length := by rw [iotaL_len]; omega
  have h4 := atD_nat h3
  rw [Int.toNat_of_nonneg h1] at h4
  rw [h4]
  simp [iotaL]
  omega
theorem mem_iotaL {n : Nat} {y : Int} : y ∈ iotaL n ↔ inN y n := by
  constructor
  · intro h
    obtain ⟨i, h1, h2, rfl⟩ := mem_atD h
    rw [iotaL_len] at h2
    rw [iotaL_at ⟨h1, h2⟩]
    exact ⟨h1, h2⟩
  · intro h
    rw [← iotaL_at h]
    exact atD_mem (by rw [iotaL_len]; exact h)
theorem IsS.iotaL {n : Nat} (h : n ≤ 512) : IsS (Go.Proofs.YtlhaoijkffhafaaDoor.Q.iotaL n) := by
  refine ⟨?_, fun x hx => ?_⟩
  · unfold Go.Proofs.YtlhaoijkffhafaaDoor.Q.iotaL
    rw [List.pairwise_map]
    exact List.pairwise_lt_range.imp fun h => by omega
  · have := mem_iotaL.1 hx
    obtain ⟨a, b⟩ := this
    omega
def trueL (n : Nat) : List Bool := List.replicate n true
theorem trueL_at {n : Nat} {k : Int} (h : inN k n) : atD (trueL n) k = true := by
  unfold atD trueL
  rw [List.getD_eq_getElem?_getD, List.getElem?_replicate, if_pos (by have := h.2; have := h.1; omega)]
  rfl
def plainR (f : AFunc) : ARename := ⟨iotaL f.Slots.length, trueL f.Code.length⟩
section
variable {n i par : Int} {f : AFunc}
theorem plain_valid (f : AFunc) : ValidP f (plainR f).To ∧ KeepP f (plainR f).Keep := by
  refine ⟨⟨iotaL_len _, fun s hs => ?_⟩, ⟨by simp [plainR, trueL], fun k hk h => ?_⟩⟩
  · have hs' : inN s f.Slots.length := by unfold plainR at hs; dsimp only at hs; rw [iotaL_len] at hs; exact hs
    have e : atD (plainR f).To s = s := iotaL_at hs'
    rw [e, e]
    exact ⟨hs, rfl, rfl⟩
  · have e : atD (plainR f).Keep k = true := trueL_at hk
    rw [e] at h; cases h
theorem cntK_true {n : Nat} : ∀ {m : Nat}, m ≤ n → cntK (trueL n) m = m
  | 0, _ => rfl
  | m + 1, h => by
    rw [cntK_succ, cntK_true (m := m) (by omega), trueL_at ⟨by omega, by omega⟩]
    simp
theorem codeOf_true {nums pl : List Int} : ∀ {m : Nat}, m ≤ f.Code.length → codeOf f (trueL f.Code.length) nums pl m = (iotaL m).map fun k => retI (renI (atD f.Code k) nums) pl
  | 0, _ => rfl
  | m + 1, h => by
    rw [codeOf, codeOf_true (m := m) (by omega), trueL_at ⟨by omega, by omega⟩]
    simp [iotaL, List.range_succ]
theorem retI_plain (hf : WfF n i par f) {k : Int} (hk : inN k f.Code.length) (nums : List Int) : retI (renI (atD f.Code k) nums) (plL (trueL f.Code.length)) = renI (atD f.Code k) nums := by
  obtain ⟨j1, j2⟩ := jump_in hf hk
  have hp : ∀ t, inN t f.Code.length → atD (plL (trueL f.Code.length)) t = t := fun t ht => by
    rw [plL_at (by unfold trueL; rw [List.length_replicate]; exact ht), cntK_true (by have := ht.1; have := ht.2; omega), Int.toNat_of_nonneg ht.1]
  unfold retI
  split
  · rename_i h
    rw [renI_op] at h
    rw [renI_jump _ _ (.inl h), hp _ (j1 h)]
  · split
    · rename_i h
      rw [renI_op] at h
      rw [renI_jump _ _ (.inr h), hp _ (j2 h)]
    · rfl
/-- Renaming by the identity changes nothing. -/
theorem renI_iota {x : AInstr} {nums : List Int} {m : Nat} (hl : nums.length = m) (hA : remB x = true → inN x.A m ∧ atD nums x.A = x.A) (hB : x.Op = 15 ∨ x.Op = 17 → inN x.B m ∧ atD nums x.B = x.B) : renI x nums = x := by
  have rn : ∀ s, inN s m ∧ atD nums s = s → renN s nums = s := fun s h => by rw [renN_in (by rw [hl]; exact h.1), h.2]
  unfold renI
  split
  · rename_i h; rw [rn _ (hB (.inl h))]
  · split
    · rename_i h; rw [rn _ (hA (by simp [remB, h]))]
    · split
      · rename_i h; rw [rn _ (hA (by simp [remB, h])), rn _ (hB (.inr h))]
      · rfl
theorem foldl_max_same {α : Type} (g : α → Int) (a : Int) : ∀ l : List α, (∀ x ∈ l, g x = a) → l.foldl (fun b x => max b (g x)) a = a
  | [], _ => rfl
  | x :: l, h => by
    rw [List.foldl_cons, h x List.mem_cons_self, show max a a = a by omega]
    exact foldl_max_same g a l fun y hy => h y (List.mem_cons_of_mem _ hy)
theorem foldl_max_ge {α : Type} (g : α → Int) : ∀ (l : List α) (a : Int), a ≤ l.foldl (fun b x => max b (g x)) a ∧ ∀ x ∈ l, g x ≤ l.foldl (fun b x => max b (g x)) a
  | [], a => ⟨Int.le_refl _, by simp⟩
  | y :: l, a => by
    obtain ⟨h1, h2⟩ := foldl_max_ge g l (max a (g y))
    rw [List.foldl_cons]
    refine ⟨by omega, fun x hx => ?_⟩
    rcases List.mem_cons.1 hx with rfl | hx
    · omega
    · exact h2 x hx
/-- Applying the renaming that changes nothing to what came out of applying it. -/
theorem plain_twice (hf : WfF n i par f) {nums : List Int} (hN : NumP (plainR f).To (usedS f (plainR f)) nums) (hg : WfF n i par (appF f (plainR f) nums)) {nums2 : List Int} (hN2 : NumP (plainR (appF f (plainR f) nums)).To (usedS (appF f (plainR f) nums) (plainR (appF f (plainR f) nums))) nums2) : appF (appF f (plainR f) nums) (plainR (appF f (plainR f) nums)) nums2 = appF f (plainR f) nums := by
  have hsl := hf.slots
  have hU := usedS_U hf (plain_valid f).1 (plain_valid f).2
  have hto : (plainR f).To.length = f.Slots.length := iotaL_len _
  generalize hu : usedS f (plainR f) = u at *
  generalize hge : appF f (plainR f) nums = g at *
  have hgs : g.Slots = u.map (slotOf f (plainR f).To) := by rw [← hge]; unfold appF; rw [hu]
  have hgc : g.Code = (iotaL f.Code.length).map fun k => renI (atD f.Code k) nums := by
    rw [← hge]
    unfold appF
    dsimp only
    change codeOf f (trueL f.Code.length) nums (plL (trueL f.Code.length)) f.Code.length = _
    rw [codeOf_true (Nat.le_refl _)]
    refine List.map_congr_left fun k hk => retI_plain hf (mem_iotaL.1 hk) nums
  have hgcl : g.Code.length = f.Code.length := by rw [hgc, List.length_map, iotaL_len]
  have hgsl : g.Slots.length = u.length := by rw [hgs, List.length_map]
  have hul : u.length ≤ f.Slots.length := asc_short hU.set hU.lt
  have hgat : ∀ k, inN k f.Code.length → atD g.Code k = renI (atD f.Code k) nums := fun k hk => by
    rw [hgc]
    have h3 : k.toNat < ((iotaL f.Code.length).map fun k => renI (atD f.Code k) nums).length := by rw [List.length_map, iotaL_len]; have := hk.1; have := hk.2; omega
    have h4 := atD_nat h3
    rw [Int.toNat_of_nonneg hk.1] at h4
    rw [h4, List.getElem_map]
    simp only [iotaL, List.getElem_map, List.getElem_range, Int.toNat_of_nonneg hk.1]
  have hnum : ∀ s, s ∈ u → inN (atD nums s) u.length ∧ atD u (atD nums s) = s ∧ inN s f.Slots.length := fun s hs => by
    have hs1 := hU.lt s hs
    have e : atD (plainR f).To s = s := iotaL_at hs1
    obtain ⟨q1, q2⟩ := hN.2 s (by rw [hto]; exact hs1) (by rw [e]; exact hs)
    exact ⟨q1, by rw [q2, e], hs1⟩
  -- every slot of g is used
  have hall : usedS g (plainR g) = iotaL u.length := by
    refine (IsS.usedS _ _).ext (IsS.iotaL (by omega)) fun t => ?_
    have hUg := usedS_U hg (plain_valid g).1 (plain_valid g).2
    rw [mem_iotaL, ← hgsl]
    constructor
    · exact fun h => hUg.lt t h
    · intro ht
      have htu : inN t u.length := by rw [← hgsl]; exact ht
      have hmem := atD_mem (l := u) htu
      have hmin : min f.Code.length (plainR f).Keep.length = f.Code.length := by simp [plainR, trueL]
      have hms : atD u t ∈ usedS f (plainR f) := by rw [hu]; exact hmem
      rw [mem_usedS, hmin] at hms
      obtain ⟨k, hk, hkeep, hor⟩ := mem_rawU.1 hms.1
      obtain ⟨q1, q2, q3⟩ := hnum _ hmem
      have htt : atD nums (atD u t) = t := hU.set.inj q1 htu q2
      have hlen : nums.length = f.Slots.length := by rw [hN.1, hto]
      have hkg : inN k g.Code.length := by rw [hgcl]; exact hk
      have hming : min g.Code.length (plainR g).Keep.length = g.Code.length := by simp [plainR, trueL]
      have hI := hf.at_ hk
      have hIg := hg.at_ hkg
      have egk := hgat k hk
      have eIf : renI (atD f.Code k) (plainR f).To = atD f.Code k := renI_iota (m := f.Slots.length) hto (fun h => ⟨hI.dfn h, iotaL_at (hI.dfn h)⟩) (fun h => by
        have := hI.use (y := (atD f.Code k).B) (by unfold useS; rw [if_pos h]; exact List.mem_cons_self)
        exact ⟨this, iotaL_at this⟩)
      have eIg : renI (atD g.Code k) (plainR g).To = atD g.Code k := renI_iota (m := g.Slots.length) (iotaL_len _) (fun h => ⟨hIg.dfn h, iotaL_at (hIg.dfn h)⟩) (fun h => by
        have := hIg.use (y := (atD g.Code k).B) (by unfold useS; rw [if_pos h]; exact List.mem_cons_self)
        exact ⟨this, iotaL_at this⟩)
      rw [eIf] at hor
      refine mem_usedS.2 ⟨mem_rawU.2 ⟨k, by rw [hming]; exact hkg, trueL_at hkg, ?_⟩, ht.1, by have := ht.2; omega⟩
      rw [eIg, egk]
      rcases hor with h | h
      · refine .inl ?_
        rw [renI_use]
        unfold useS at h
        split at h
        · rename_i hop
          rw [if_pos hop, ← one_mem h, renN_in (by rw [hlen]; exact q3), htt]
          exact List.mem_cons_self
        · cases h
      · refine .inr ?_
        unfold defS at h ⊢
        rw [renI_rem]
        split at h
        · rename_i hop
          rw [if_pos hop, renI_A _ _ hop, ← one_mem h, renN_in (by rw [hlen]; exact q3), htt]
          exact List.mem_cons_self
        · cases h
  have hgto : ∀ s, inN s u.length → atD (plainR g).To s = s := fun s hs => iotaL_at (by rw [hgsl]; exact hs)
  have hn2 : ∀ s, inN s u.length → atD nums2 s = s := fun s hs => by
    obtain ⟨q1, q2⟩ := hN2.2 s (by show inN s (iotaL _).length; rw [iotaL_len, hgsl]; exact hs) (by rw [hgto s hs, hall]; exact mem_iotaL.2 hs)
    rw [hall, iotaL_len] at q1
    rw [hall, iotaL_at q1, hgto s hs] at q2
    exact q2
  have hn2l : nums2.length = u.length := by rw [hN2.1]; show (iotaL _).length = _; rw [iotaL_len, hgsl]
  have hcode : codeOf g (plainR g).Keep nums2 (plL (plainR g).Keep) g.Code.length = g.Code := by
    change codeOf g (trueL g.Code.length) nums2 (plL (trueL g.Code.length)) g.Code.length = _
    rw [codeOf_true (Nat.le_refl _)]
    refine atD_ext (by rw [List.length_map, iotaL_len]) fun k hk => ?_
    rw [List.length_map, iotaL_len] at hk
    have h3 : k.toNat < ((iotaL g.Code.length).map fun k => retI (renI (atD g.Code k) nums2) (plL (trueL g.Code.length))).length := by rw [List.length_map, iotaL_len]; have := hk.1; have := hk.2; omega
    have h4 := atD_nat h3
    rw [Int.toNat_of_nonneg hk.1] at h4
    rw [h4, List.getElem_map]
    simp only [iotaL, List.getElem_map, List.getElem_range, Int.toNat_of_nonneg hk.1]
    rw [retI_plain hg hk]
    have hIg := hg.at_ hk
    refine renI_iota (m := u.length) hn2l (fun h => ?_) (fun h => ?_)
    · have := hIg.dfn h
      rw [hgsl] at this
      exact ⟨this, hn2 _ this⟩
    · have := hIg.use (y := (atD g.Code k).B) (by unfold useS; rw [if_pos h]; exact List.mem_cons_self)
      rw [hgsl] at this
      exact ⟨this, hn2 _ this⟩
  have hslots : (usedS g (plainR g)).map (slotOf g (plainR g).To) = g.Slots := by
    rw [hall]
    refine atD_ext (by rw [List.length_map, iotaL_len, hgsl]) fun k hk => ?_
    rw [List.length_map, iotaL_len] at hk
    have h3 : k.toNat < ((iotaL u.length).map (slotOf g (plainR g).To)).length := by rw [List.length_map, iotaL_len]; have := hk.1; have := hk.2; omega
    have h4 := atD_nat h3
    rw [Int.toNat_of_nonneg hk.1] at h4
    rw [h4, List.getElem_map]
    simp only [iotaL, List.getElem_map, List.getElem_range, Int.toNat_of_nonneg hk.1]
    unfold slotOf
    rw [foldl_max_same]
    intro x hx
    obtain ⟨e1, e2⟩ := mem_membS.1 hx
    change inN x (iotaL _).length at e1
    rw [iotaL_len, hgsl] at e1
    rw [hgto x e1] at e2
    rw [e2]
  unfold appF
  rw [hcode, hslots]
end
end Go.Proofs.YtlhaoijkffhafaaDoor.Q
