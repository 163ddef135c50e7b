/- Sizes, alignments, arguments: what the functions compute. -/
import Derived.Test.YteifdlklpdjkkaaDoorP1
set_option linter.unusedVariables false
set_option linter.unusedSimpArgs false
namespace Go.Proofs.YteifdlklpdjkkaaDoor.Q
theorem take_atD {α : Type} [Inhabited α] {l : List α} {k : Int} (h : 0 ≤ k ∧ k < (l.length : Int)) : l.take (k + 1).toNat = l.take k.toNat ++ [atD l k] := by
  have h1 : k.toNat < l.length := by omega
  rw [show (k + 1).toNat = k.toNat + 1 by omega, List.take_succ_eq_append_getElem h1]
  congr 1
  have := atD_nat h1
  rw [Int.toNat_of_nonneg h.1] at this
  rw [this]
theorem take_all {α : Type} {l : List α} {k : Int} (h : (l.length : Int) ≤ k) : l.take k.toNat = l := List.take_of_length_le (by omega)
def sizeB (n : Int) : Bool := decide (n = 1 ∨ n = 2 ∨ n = 4 ∨ n = 8 ∨ n = 16)
/-- Powers of two, to the greatest alignment. -/
def powL : Nat → Int → List Int
  | 0, _ => []
  | n + 1, k => k :: powL n (k * 2)
def powB (n : Int) : Bool := decide (n ∈ powL 25 1)
theorem powB_small {n : Int} (h : n = 1 ∨ n = 2 ∨ n = 4 ∨ n = 8 ∨ n = 16 ∨ n = 32 ∨ n = 64) : powB n = true := by
  rcases h with h | h | h | h | h | h | h <;> subst h <;> decide
def slotB (s : ASlot) : Bool := sizeB s.Size && powB s.Align
def slotsE (s : List ASlot) : Int := if 512 < s.length then 3 else if s.all slotB then 0 else 5
theorem rightS.slotB {s : ASlot} (h : rightS s) : slotB s = true := by
  unfold Go.Proofs.YteifdlklpdjkkaaDoor.Q.slotB
  rw [powB_small h.2]
  simp [sizeB, h.1]
theorem slotsE_right {s : List ASlot} (hl : s.length ≤ 512) (h : ∀ x ∈ s, rightS x) : slotsE s = 0 := by
  unfold slotsE
  rw [if_neg (by omega), if_pos (List.all_eq_true.2 fun x hx => (h x hx).slotB)]
def alignS (s : List ASlot) : Int := s.foldl (fun a x => max a x.Align) 16
/-- An alignment of a drawn program. -/
def alR (a : Int) : Prop := a = 16 ∨ a = 32 ∨ a = 64
theorem alignS_R {s : List ASlot} (h : ∀ x ∈ s, rightS x) : alR (alignS s) ∧ ∀ x ∈ s, x.Align ≤ alignS s := by
  have key : ∀ (l : List ASlot) (a : Int), alR a → (∀ x ∈ l, rightS x) → alR (l.foldl (fun a x => max a x.Align) a) ∧ a ≤ l.foldl (fun a x => max a x.Align) a ∧ ∀ x ∈ l, x.Align ≤ l.foldl (fun a x => max a x.Align) a := by
    intro l
    induction l with
    | nil => intro a ha _; exact ⟨ha, Int.le_refl _, by simp⟩
    | cons y r ih =>
      intro a ha hy
      have h1 := (hy y List.mem_cons_self).2
      have h2 : alR (max a y.Align) := by unfold alR at ha ⊢; omega
      obtain ⟨h3, h4, h5⟩ := ih _ h2 fun x hx => hy x (List.mem_cons_of_mem _ hx)
      refine ⟨h3, by rw [List.foldl_cons]; omega, fun x hx => ?_⟩
      rw [List.foldl_cons]
      rcases List.mem_cons.1 hx with rfl | hx
      · omega
      · exact h5 x hx
  obtain ⟨h1, _, h2⟩ := key s 16 (.inl rfl) h
  exact ⟨h1, h2⟩
def alignP (p : AProgram) : Int := p.Funcs.foldl (fun a f => max a (alignS f.Slots)) 16
theorem WfP.slotsR {p : AProgram} (hp : WfP p) {f : AFunc} (hf : f ∈ p.Funcs) : f.Slots.length ≤ 6 ∧ ∀ x ∈ f.Slots, rightS x := by
  obtain ⟨t, h1, h2, rfl⟩ := mem_atD hf
  exact ⟨(hp.func t h1 h2).slots, (hp.func t h1 h2).rightS⟩
theorem alignP_R {p : AProgram} (hp : WfP p) : alR (alignP p) ∧ ∀ f ∈ p.Funcs, alignS f.Slots ≤ alignP p := by
  have key : ∀ (l : List AFunc) (a : Int), alR a → (∀ f ∈ l, alR (alignS f.Slots)) → alR (l.foldl (fun a f => max a (alignS f.Slots)) a) ∧ a ≤ l.foldl (fun a f => max a (alignS f.Slots)) a ∧ ∀ f ∈ l, alignS f.Slots ≤ l.foldl (fun a f => max a (alignS f.Slots)) a := by
    intro l
    induction l with
    | nil => intro a ha _; exact ⟨ha, Int.le_refl _, by simp⟩
    | cons y r ih =>
      intro a ha hy
      have h1 := hy y List.mem_cons_self
      have h2 : alR (max a (alignS y.Slots)) := by unfold alR at ha h1 ⊢; omega
      obtain ⟨h3, h4, h5⟩ := ih _ h2 fun x hx => hy x (List.mem_cons_of_mem _ hx)
      refine ⟨h3, by rw [List.foldl_cons]; omega, fun x hx => ?_⟩
      rw [List.foldl_cons]
      rcases List.mem_cons.1 hx with rfl | hx
      · omega
      · exact h5 x hx
  obtain ⟨h1, _, h2⟩ := key p.Funcs 16 (.inl rfl) fun f hf => (alignS_R (hp.slotsR hf).2).1
  exact ⟨h1, h2⟩
/-- What an instruction needs of the area of arguments. -/
def needA (p : AProgram) (x : AInstr) : Int := if x.Op = 18 then x.A + 1 else if x.Op = 22 then (atD p.Funcs x.A).Params else 0
def argsN (p : AProgram) (l : List AInstr) : Int := l.foldl (fun n x => max n (needA p x)) 0
theorem argsN_snoc (p : AProgram) (l : List AInstr) (x : AInstr) : argsN p (l ++ [x]) = max (argsN p l) (needA p x) := by
  unfold argsN; rw [List.foldl_append]; rfl
theorem WfI.need {p : AProgram} (hp : WfP p) {i par : Int} {sl : List ASlot} {J : Int → Prop} {x : AInstr} (hi : 0 ≤ i) (h : WfI p.Funcs.length i par sl J x) : 0 ≤ needA p x ∧ needA p x ≤ 8 ∧ (x.Op = 18 → 0 ≤ x.A ∧ x.A < 8) ∧ (x.Op = 22 → i < x.A ∧ x.A < p.Funcs.length) := by
  cases h with
  | arg a r ha hr => obtain ⟨h1, h2⟩ := ha; simp [needA]; omega
  | call f h1 h2 =>
    have := hp.par _ (atD_mem (l := p.Funcs) (i := f) ⟨by omega, h2⟩)
    simp [needA]; omega
  | copy o a b ho ha hb =>
    have h1 : ¬ o = 18 := by omega
    have h2 : ¬ o = 22 := by omega
    simp [needA, h1, h2]
  | arith o a b c h1 h2 =>
    have h3 : ¬ o = 18 := by omega
    have h4 : ¬ o = 22 := by omega
    simp [needA, h3, h4]
  | io o a ho =>
    have h1 : ¬ o = 18 := by omega
    have h2 : ¬ o = 22 := by omega
    simp [needA, h1, h2]
  | _ => simp [needA]
theorem WfP.at_ {p : AProgram} (hp : WfP p) {i k : Int} (hi : inN i p.Funcs.length) (hk : inN k (atD p.Funcs i).Code.length) : WfI p.Funcs.length i (atD p.Funcs i).Params (atD p.Funcs i).Slots (fun t => inN t (atD p.Funcs i).Code.length) (atD (atD p.Funcs i).Code k) := (hp.func i hi.1 hi.2).instr _ (atD_mem hk)
theorem argsN_R {p : AProgram} (hp : WfP p) {i : Int} (hi : inN i p.Funcs.length) {l : List AInstr} (hl : ∀ x ∈ l, x ∈ (atD p.Funcs i).Code) : 0 ≤ argsN p l ∧ argsN p l ≤ 8 ∧ (∀ x ∈ l, needA p x ≤ argsN p l) ∧ (argsN p l = 0 ∨ ∃ x ∈ l, needA p x = argsN p l) := by
  have key : ∀ (l : List AInstr) (a : Int), 0 ≤ a → a ≤ 8 → (∀ x ∈ l, 0 ≤ needA p x ∧ needA p x ≤ 8) → a ≤ l.foldl (fun n x => max n (needA p x)) a ∧ l.foldl (fun n x => max n (needA p x)) a ≤ 8 ∧ (∀ x ∈ l, needA p x ≤ l.foldl (fun n x => max n (needA p x)) a) ∧ (l.foldl (fun n x => max n (needA p x)) a = a ∨ ∃ x ∈ l, needA p x = l.foldl (fun n x => max n (needA p x)) a) := by
    intro l
    induction l with
    | nil => intro a h1 h2 _; exact ⟨Int.le_refl _, h2, by simp, .inl rfl⟩
    | cons y r ih =>
      intro a h1 h2 h3
      have h4 := h3 y List.mem_cons_self
      obtain ⟨h5, h6, h7, h8⟩ := ih (max a (needA p y)) (by omega) (by omega) fun x hx => h3 x (List.mem_cons_of_mem _ hx)
      rw [List.foldl_cons]
      refine ⟨by omega, h6, fun x hx => ?_, ?_⟩
      · rcases List.mem_cons.1 hx with rfl | hx
        · omega
        · exact h7 x hx
      · rcases h8 with h8 | ⟨x, hx, h8⟩
        · rcases Int.le_total a (needA p y) with h9 | h9
          · exact .inr ⟨y, List.mem_cons_self, by omega⟩
          · exact .inl (by omega)
        · exact .inr ⟨x, List.mem_cons_of_mem _ hx, h8⟩
  obtain ⟨h1, h2, h3, h4⟩ := key l 0 (by omega) (by omega) fun x hx => by
    have := ((hp.func i hi.1 hi.2).instr x (hl x hx)).need hp hi.1
    omega
  exact ⟨h1, h2, h3, h4⟩
end Go.Proofs.YteifdlklpdjkkaaDoor.Q
