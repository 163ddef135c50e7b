/- Sizes, alignments, arguments: what the functions compute. -/
import Derived.Test.YtjnfnochdefpjaaGreatP1
set_option linter.unusedVariables false
set_option linter.unusedSimpArgs false
namespace Go.Proofs.YtjnfnochdefpjaaGreat.Q
theorem take_atD {α : Type} [Inhabited α] {l : List α} {k : Int} (h : 0 ≤ k ∧ k < (l.length : Int)) : l.take (k + 1).toNat = l.take k.toNat ++ [atD l k] := by
  have h1 : k.toNat < l.length := by omega
  rw [show (k + 1).toNat = k.toNat + 1 by omega, List.take_succ_eq_append_getElem h1]
  congr 1
  have := atD_nat h1
  rw [Int.toNat_of_nonneg h.1] at this
  rw [this]
theorem take_all {α : Type} {l : List α} {k : Int} (h : (l.length : Int) ≤ k) : l.take k.toNat = l := List.take_of_length_le (by omega)
def sizeB (n : Int) : Bool := decide (n = 1 ∨ n = 2 ∨ n = 4 ∨ n = 8 ∨ n = 16)
theorem size_sp (n : Int) : WP (r02_Size n) (· = sizeB n) := by
  unfold r02_Size sizeB
  (repeat' (first | (refine WP.chk (by (first | omega | (simp only [okI, List.length_append, List.length_cons, List.length_nil, length_setD, length_repD] at *; omega))) fun _ => ?_) | ((refine WP.bif (fun wh => ?_) (fun wh => ?_)) <;> (try simp only [wpH, ne_eq] at wh) <;> (try (exfalso; omega)))))
  all_goals (refine WP.ret ?_; simp_all)
/-- Powers of two, to the greatest alignment. -/
def powL : Nat → Int → List Int
  | 0, _ => []
  | n + 1, k => k :: powL n (k * 2)
def powB (n : Int) : Bool := decide (n ∈ powL 25 1)
theorem power_sp (n : Int) : WP (r03_Power n) (· = powB n) := by
  unfold r03_Power powB
  refine WP.loop (fun j => ∃ m : Nat, m ≤ 25 ∧ j = 2 ^ (25 - m) ∧ (n ∈ powL 25 1 ↔ n ∈ powL m j)) (fun j => (33554433 - j).toNat) ⟨25, by omega, rfl, Iff.rfl⟩ ?_
  rintro again j ⟨m, hm, hj, hi⟩ ih
  have hj0 : 0 < j := by rw [hj]; exact Int.pow_pos (by omega)
  refine WP.bif (fun wh => ?_) (fun wh => ?_) <;> (try simp only [wpH, ne_eq] at wh)
  · obtain ⟨m', rfl⟩ : ∃ m', m = m' + 1 := by
      cases m with
      | zero => exfalso; rw [hj] at wh; revert wh; decide
      | succ m' => exact ⟨m', rfl⟩
    (repeat' (first | (refine WP.chk (by (first | omega | (simp only [okI, List.length_append, List.length_cons, List.length_nil, length_setD, length_repD] at *; omega))) fun _ => ?_) | ((refine WP.bif (fun wh => ?_) (fun wh => ?_)) <;> (try simp only [wpH, ne_eq] at wh) <;> (try (exfalso; omega)))))
    · refine WP.ret ?_
      rw [eq_comm, decide_eq_true_eq, hi]
      rw [wh]
      exact List.mem_cons_self
    · refine ih _ ⟨m', by omega, ?_, ?_⟩ (by omega)
      · rw [hj, ← Int.pow_succ]; congr 1; omega
      · rw [hi]
        exact ⟨fun q => (List.mem_cons.1 q).resolve_left wh, fun q => List.mem_cons_of_mem _ q⟩
  · have hm0 : m = 0 := by
      have : m = 0 ∨ 1 ≤ m := by omega
      rcases this with h | h
      · exact h
      · exfalso
        have h2 : 2 ^ (25 - m) ≤ 2 ^ 24 := Nat.pow_le_pow_right (by omega) (by omega)
        have h3 : (2 : Int) ^ (25 - m) = ((2 ^ (25 - m) : Nat) : Int) := by rw [Int.natCast_pow]; rfl
        rw [← hj] at h3
        omega
    subst hm0
    refine WP.ret ?_
    rw [eq_comm, decide_eq_false_iff_not, hi]
    exact List.not_mem_nil
theorem powB_small {n : Int} (h : n = 1 ∨ n = 2 ∨ n = 4 ∨ n = 8 ∨ n = 16 ∨ n = 32 ∨ n = 64) : powB n = true := by
  rcases h with h | h | h | h | h | h | h <;> subst h <;> decide
def slotB (s : ASlot) : Bool := sizeB s.Size && powB s.Align
def slotsE (s : List ASlot) : Int := if 512 < s.length then 3 else if s.all slotB then 0 else 5
theorem slots3_sp (s : List ASlot) (hl : s.length ≤ 1000000000) : WP (r03_Slots s) (· = slotsE s) := by
  unfold r03_Slots slotsE
  refine WP.bif (fun wh => ?_) (fun wh => ?_) <;> (try simp only [wpH, ne_eq] at wh)
  · exact WP.ret (by rw [if_pos (by omega)])
  rw [if_neg (by omega)]
  refine WP.loop (fun j => 0 ≤ j ∧ j ≤ s.length ∧ (s.take j.toNat).all slotB = true) (fun j => s.length - j.toNat) ⟨by omega, by omega, rfl⟩ ?_
  rintro again i ⟨h1, h2, h3⟩ ih
  refine WP.bif (fun wh => ?_) (fun wh => ?_) <;> (try simp only [wpH, ne_eq] at wh)
  · have hm : atD s i ∈ s := atD_mem ⟨h1, wh⟩
    have hbad : slotB (atD s i) = false → (if s.all slotB = true then (0 : Int) else 5) = 5 := fun hb => by
      rw [if_neg]
      intro ha
      rw [List.all_eq_true.1 ha _ hm] at hb
      cases hb
    (repeat' (first | (refine WP.chk (by (first | omega | (simp only [okI, List.length_append, List.length_cons, List.length_nil, length_setD, length_repD] at *; omega))) fun _ => ?_) | ((refine WP.bif (fun wh => ?_) (fun wh => ?_)) <;> (try simp only [wpH, ne_eq] at wh) <;> (try (exfalso; omega)))))
    refine WP.call (size_sp _) ?_
    rintro _ rfl
    refine WP.bif (fun wh => ?_) (fun wh => ?_) <;> (try simp only [wpH, ne_eq] at wh)
    · exact WP.ret (hbad (by unfold slotB; rw [wh]; rfl)).symm
    have hs := wh
    (repeat' (first | (refine WP.chk (by (first | omega | (simp only [okI, List.length_append, List.length_cons, List.length_nil, length_setD, length_repD] at *; omega))) fun _ => ?_) | ((refine WP.bif (fun wh => ?_) (fun wh => ?_)) <;> (try simp only [wpH, ne_eq] at wh) <;> (try (exfalso; omega)))))
    refine WP.call (power_sp _) ?_
    rintro _ rfl
    refine WP.bif (fun wh => ?_) (fun wh => ?_) <;> (try simp only [wpH, ne_eq] at wh)
    · exact WP.ret (hbad (by unfold slotB; rw [wh]; simp)).symm
    have hp := wh
    (repeat' (first | (refine WP.chk (by (first | omega | (simp only [okI, List.length_append, List.length_cons, List.length_nil, length_setD, length_repD] at *; omega))) fun _ => ?_) | ((refine WP.bif (fun wh => ?_) (fun wh => ?_)) <;> (try simp only [wpH, ne_eq] at wh) <;> (try (exfalso; omega)))))
    refine ih _ ⟨by omega, by omega, ?_⟩ (by omega)
    rw [take_atD ⟨h1, by assumption⟩, List.all_append, h3]
    simp [slotB, hs, hp]
  · refine WP.ret ?_
    rw [take_all (by omega)] at h3
    rw [if_pos h3]
theorem rightS.slotB {s : ASlot} (h : rightS s) : slotB s = true := by
  unfold Go.Proofs.YtjnfnochdefpjaaGreat.Q.slotB
  rw [powB_small h.2]
  simp [sizeB, h.1]
theorem slotsE_right {s : List ASlot} (hl : s.length ≤ 512) (h : ∀ x ∈ s, rightS x) : slotsE s = 0 := by
  unfold slotsE
  rw [if_neg (by omega), if_pos (List.all_eq_true.2 fun x hx => (h x hx).slotB)]
def alignS (s : List ASlot) : Int := s.foldl (fun a x => max a x.Align) 16
theorem align3_sp (s : List ASlot) (hl : s.length ≤ 1000000000) : WP (r03_Align s) (· = if slotsE s = 0 then alignS s else 16) := by
  unfold r03_Align
  refine WP.call (slots3_sp s hl) ?_
  rintro _ rfl
  refine WP.bif (fun wh => ?_) (fun wh => ?_) <;> (try simp only [wpH, ne_eq] at wh)
  · exact WP.ret (by rw [if_neg wh])
  rw [if_pos wh]
  refine WP.loop (fun j => 0 ≤ j.2 ∧ j.2 ≤ s.length ∧ j.1 = alignS (s.take j.2.toNat)) (fun j => s.length - j.2.toNat) ⟨by simp, by simp, rfl⟩ ?_
  rintro again ⟨a, i⟩ ⟨h1, h2, h3⟩ ih
  dsimp only at h1 h2 h3 ih ⊢
  (repeat' (first | (refine WP.chk (by (first | omega | (simp only [okI, List.length_append, List.length_cons, List.length_nil, length_setD, length_repD] at *; omega))) fun _ => ?_) | ((refine WP.bif (fun wh => ?_) (fun wh => ?_)) <;> (try simp only [wpH, ne_eq] at wh) <;> (try (exfalso; omega)))))
  · refine ih _ ⟨by dsimp only; omega, by dsimp only; omega, ?_⟩ (by dsimp only; omega)
    dsimp only
    rw [take_atD ⟨h1, by assumption⟩, alignS, List.foldl_append, h3]
    rfl
  · refine WP.ret ?_
    rw [h3, take_all (by omega)]
/-- An alignment of a drawn program. -/
def alR (a : Int) : Prop := a = 16 ∨ a = 32 ∨ a = 64
theorem alignS_R {s : List ASlot} (h : ∀ x ∈ s, rightS x) : alR (alignS s) ∧ ∀ x ∈ s, x.Align ≤ alignS s := by
  have key : ∀ (l : List ASlot) (a : Int), alR a → (∀ x ∈ l, rightS x) → alR (l.foldl (fun a x => max a x.Align) a) ∧ a ≤ l.foldl (fun a x => max a x.Align) a ∧ ∀ x ∈ l, x.Align ≤ l.foldl (fun a x => max a x.Align) a := by
    intro l
    induction l with
    | nil => intro a ha _; exact ⟨ha, Int.le_refl _, by simp⟩
    | cons y r ih =>
      intro a ha hy
      have h1 := (hy y List.mem_cons_self).2
      have h2 : alR (max a y.Align) := by unfold alR at ha ⊢; omega
      obtain ⟨h3, h4, h5⟩ := ih _ h2 fun x hx => hy x (List.mem_cons_of_mem _ hx)
      refine ⟨h3, by rw [List.foldl_cons]; omega, fun x hx => ?_⟩
      rw [List.foldl_cons]
      rcases List.mem_cons.1 hx with rfl | hx
      · omega
      · exact h5 x hx
  obtain ⟨h1, _, h2⟩ := key s 16 (.inl rfl) h
  exact ⟨h1, h2⟩
def alignP (p : AProgram) : Int := p.Funcs.foldl (fun a f => max a (alignS f.Slots)) 16
theorem WfP.slotsR {p : AProgram} (hp : WfP p) {f : AFunc} (hf : f ∈ p.Funcs) : f.Slots.length ≤ 6 ∧ ∀ x ∈ f.Slots, rightS x := by
  obtain ⟨t, h1, h2, rfl⟩ := mem_atD hf
  exact ⟨(hp.func t h1 h2).slots, (hp.func t h1 h2).rightS⟩
theorem align5_sp (p : AProgram) (hp : WfP p) : WP (r05_Align p) (· = alignP p) := by
  unfold r05_Align
  have hl := hp.len
  refine WP.loop (fun j => 0 ≤ j.2 ∧ j.2 ≤ p.Funcs.length ∧ j.1 = alignP ⟨p.Funcs.take j.2.toNat⟩) (fun j => p.Funcs.length - j.2.toNat) ⟨by simp, by simp, rfl⟩ ?_
  rintro again ⟨a, i⟩ ⟨h1, h2, h3⟩ ih
  dsimp only at h1 h2 h3 ih ⊢
  (repeat' (first | (refine WP.chk (by (first | omega | (simp only [okI, List.length_append, List.length_cons, List.length_nil, length_setD, length_repD] at *; omega))) fun _ => ?_) | ((refine WP.bif (fun wh => ?_) (fun wh => ?_)) <;> (try simp only [wpH, ne_eq] at wh) <;> (try (exfalso; omega)))))
  · obtain ⟨h4, h5⟩ := hp.slotsR (atD_mem (l := p.Funcs) ⟨h1, by assumption⟩)
    refine WP.call (align3_sp _ (by omega)) ?_
    rintro _ rfl
    (repeat' (first | (refine WP.chk (by (first | omega | (simp only [okI, List.length_append, List.length_cons, List.length_nil, length_setD, length_repD] at *; omega))) fun _ => ?_) | ((refine WP.bif (fun wh => ?_) (fun wh => ?_)) <;> (try simp only [wpH, ne_eq] at wh) <;> (try (exfalso; omega)))))
    refine ih _ ⟨by dsimp only; omega, by dsimp only; omega, ?_⟩ (by dsimp only; omega)
    dsimp only
    rw [take_atD ⟨h1, by assumption⟩, alignP, List.foldl_append, h3, if_pos (slotsE_right (by omega) h5)]
    rfl
  · refine WP.ret ?_
    rw [h3, take_all (by omega)]
theorem alignP_R {p : AProgram} (hp : WfP p) : alR (alignP p) ∧ ∀ f ∈ p.Funcs, alignS f.Slots ≤ alignP p := by
  have key : ∀ (l : List AFunc) (a : Int), alR a → (∀ f ∈ l, alR (alignS f.Slots)) → alR (l.foldl (fun a f => max a (alignS f.Slots)) a) ∧ a ≤ l.foldl (fun a f => max a (alignS f.Slots)) a ∧ ∀ f ∈ l, alignS f.Slots ≤ l.foldl (fun a f => max a (alignS f.Slots)) a := by
    intro l
    induction l with
    | nil => intro a ha _; exact ⟨ha, Int.le_refl _, by simp⟩
    | cons y r ih =>
      intro a ha hy
      have h1 := hy y List.mem_cons_self
      have h2 : alR (max a (alignS y.Slots)) := by unfold alR at ha h1 ⊢; omega
      obtain ⟨h3, h4, h5⟩ := ih _ h2 fun x hx => hy x (List.mem_cons_of_mem _ hx)
      refine ⟨h3, by rw [List.foldl_cons]; omega, fun x hx => ?_⟩
      rw [List.foldl_cons]
      rcases List.mem_cons.1 hx with rfl | hx
      · omega
      · exact h5 x hx
  obtain ⟨h1, _, h2⟩ := key p.Funcs 16 (.inl rfl) fun f hf => (alignS_R (hp.slotsR hf).2).1
  exact ⟨h1, h2⟩
/-- What an instruction needs of the area of arguments. -/
def needA (p : AProgram) (x : AInstr) : Int := if x.Op = 18 then x.A + 1 else if x.Op = 22 then (atD p.Funcs x.A).Params else 0
def argsN (p : AProgram) (l : List AInstr) : Int := l.foldl (fun n x => max n (needA p x)) 0
theorem argsN_snoc (p : AProgram) (l : List AInstr) (x : AInstr) : argsN p (l ++ [x]) = max (argsN p l) (needA p x) := by
  unfold argsN; rw [List.foldl_append]; rfl
theorem WfI.need {p : AProgram} (hp : WfP p) {i par : Int} {sl : List ASlot} {J : Int → Prop} {x : AInstr} (hi : 0 ≤ i) (h : WfI p.Funcs.length i par sl J x) : 0 ≤ needA p x ∧ needA p x ≤ 8 ∧ (x.Op = 18 → 0 ≤ x.A ∧ x.A < 8) ∧ (x.Op = 22 → i < x.A ∧ x.A < p.Funcs.length) := by
  cases h with
  | arg a r ha hr => obtain ⟨h1, h2⟩ := ha; simp [needA]; omega
  | call f h1 h2 =>
    have := hp.par _ (atD_mem (l := p.Funcs) (i := f) ⟨by omega, h2⟩)
    simp [needA]; omega
  | copy o a b ho ha hb =>
    have h1 : ¬ o = 18 := by omega
    have h2 : ¬ o = 22 := by omega
    simp [needA, h1, h2]
  | arith o a b c h1 h2 =>
    have h3 : ¬ o = 18 := by omega
    have h4 : ¬ o = 22 := by omega
    simp [needA, h3, h4]
  | io o a ho =>
    have h1 : ¬ o = 18 := by omega
    have h2 : ¬ o = 22 := by omega
    simp [needA, h1, h2]
  | _ => simp [needA]
theorem WfP.at_ {p : AProgram} (hp : WfP p) {i k : Int} (hi : inN i p.Funcs.length) (hk : inN k (atD p.Funcs i).Code.length) : WfI p.Funcs.length i (atD p.Funcs i).Params (atD p.Funcs i).Slots (fun t => inN t (atD p.Funcs i).Code.length) (atD (atD p.Funcs i).Code k) := (hp.func i hi.1 hi.2).instr _ (atD_mem hk)
theorem argsN_R {p : AProgram} (hp : WfP p) {i : Int} (hi : inN i p.Funcs.length) {l : List AInstr} (hl : ∀ x ∈ l, x ∈ (atD p.Funcs i).Code) : 0 ≤ argsN p l ∧ argsN p l ≤ 8 ∧ (∀ x ∈ l, needA p x ≤ argsN p l) ∧ (argsN p l = 0 ∨ ∃ x ∈ l, needA p x = argsN p l) := by
  have key : ∀ (l : List AInstr) (a : Int), 0 ≤ a → a ≤ 8 → (∀ x ∈ l, 0 ≤ needA p x ∧ needA p x ≤ 8) → a ≤ l.foldl (fun n x => max n (needA p x)) a ∧ l.foldl (fun n x => max n (needA p x)) a ≤ 8 ∧ (∀ x ∈ l, needA p x ≤ l.foldl (fun n x => max n (needA p x)) a) ∧ (l.foldl (fun n x => max n (needA p x)) a = a ∨ ∃ x ∈ l, needA p x = l.foldl (fun n x => max n (needA p x)) a) := by
    intro l
    induction l with
    | nil => intro a h1 h2 _; exact ⟨Int.le_refl _, h2, by simp, .inl rfl⟩
    | cons y r ih =>
      intro a h1 h2 h3
      have h4 := h3 y List.mem_cons_self
      obtain ⟨h5, h6, h7, h8⟩ := ih (max a (needA p y)) (by omega) (by omega) fun x hx => h3 x (List.mem_cons_of_mem _ hx)
      rw [List.foldl_cons]
      refine ⟨by omega, h6, fun x hx => ?_, ?_⟩
      · rcases List.mem_cons.1 hx with rfl | hx
        · omega
        · exact h7 x hx
      · rcases h8 with h8 | ⟨x, hx, h8⟩
        · rcases Int.le_total a (needA p y) with h9 | h9
          · exact .inr ⟨y, List.mem_cons_self, by omega⟩
          · exact .inl (by omega)
        · exact .inr ⟨x, List.mem_cons_of_mem _ hx, h8⟩
  obtain ⟨h1, h2, h3, h4⟩ := key l 0 (by omega) (by omega) fun x hx => by
    have := ((hp.func i hi.1 hi.2).instr x (hl x hx)).need hp hi.1
    omega
  exact ⟨h1, h2, h3, h4⟩
theorem args24_sp (p : AProgram) (i : Int) (hp : WfP p) (hi : inN i p.Funcs.length) : WP (pack_Args p i) (· = 16 * argsN p (atD p.Funcs i).Code) := by
  unfold pack_Args
  obtain ⟨hi1, hi2⟩ := hi
  have hc := (hp.func i hi1 hi2).code
  (repeat' (first | (refine WP.chk (by (first | omega | (simp only [okI, List.length_append, List.length_cons, List.length_nil, length_setD, length_repD] at *; omega))) fun _ => ?_) | ((refine WP.bif (fun wh => ?_) (fun wh => ?_)) <;> (try simp only [wpH, ne_eq] at wh) <;> (try (exfalso; omega)))))
  generalize hf : atD p.Funcs i = f at *
  have hT : ∀ k : Int, 0 ≤ argsN p (f.Code.take k.toNat) ∧ argsN p (f.Code.take k.toNat) ≤ 8 := fun k => by
    have := argsN_R hp ⟨hi1, hi2⟩ (l := f.Code.take k.toNat) fun x hx => by rw [hf]; exact List.take_subset _ _ hx
    omega
  refine WP.loop (fun j => 0 ≤ j.2 ∧ j.2 ≤ f.Code.length ∧ j.1 = argsN p (f.Code.take j.2.toNat)) (fun j => f.Code.length - j.2.toNat) ⟨by simp, by simp, rfl⟩ ?_
  rintro again ⟨n, k⟩ ⟨h1, h2, h3⟩ ih
  dsimp only at h1 h2 h3 ih ⊢
  have hTk := hT k
  rw [← h3] at hTk
  refine WP.bif (fun wh => ?_) (fun wh => ?_) <;> (try simp only [wpH, ne_eq] at wh)
  · have hN := (hp.at_ (i := i) (k := k) ⟨hi1, hi2⟩ ⟨h1, by rw [hf]; exact wh⟩).need hp hi1
    rw [hf] at hN
    have hs : ∀ m, needA p (atD f.Code k) = m → max n m = argsN p (f.Code.take (k + 1).toNat) := fun m hm => by
      rw [take_atD ⟨h1, wh⟩, argsN_snoc, ← h3, hm]
    generalize hx : atD f.Code k = x at *
    (repeat' (first | (refine WP.chk (by (first | omega | (simp only [okI, List.length_append, List.length_cons, List.length_nil, length_setD, length_repD] at *; omega))) fun _ => ?_) | ((refine WP.bif (fun wh => ?_) (fun wh => ?_)) <;> (try simp only [wpH, ne_eq] at wh) <;> (try (exfalso; omega)))))
    · exact ih _ ⟨by dsimp only; omega, by dsimp only; omega, hs _ (by unfold needA; rw [if_pos (by assumption)])⟩ (by dsimp only; omega)
    · exact ih _ ⟨by dsimp only; omega, by dsimp only; omega, hs _ (by unfold needA; rw [if_neg (by assumption), if_pos (by assumption)])⟩ (by dsimp only; omega)
    · refine ih _ ⟨by dsimp only; omega, by dsimp only; omega, ?_⟩ (by dsimp only; omega)
      have := hs 0 (by unfold needA; rw [if_neg (by assumption), if_neg (by assumption)])
      dsimp only
      omega
  · (repeat' (first | (refine WP.chk (by (first | omega | (simp only [okI, List.length_append, List.length_cons, List.length_nil, length_setD, length_repD] at *; omega))) fun _ => ?_) | ((refine WP.bif (fun wh => ?_) (fun wh => ?_)) <;> (try simp only [wpH, ne_eq] at wh) <;> (try (exfalso; omega)))))
    refine WP.ret ?_
    rw [h3, take_all (by omega)]
end Go.Proofs.YtjnfnochdefpjaaGreat.Q
