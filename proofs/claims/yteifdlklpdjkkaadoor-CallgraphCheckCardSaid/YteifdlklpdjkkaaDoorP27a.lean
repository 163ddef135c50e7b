/- Chapter 27: programs with calls, how often a function calls another, the graph of a program. -/
import Derived.Test.YteifdlklpdjkkaaDoorP27g
set_option linter.unusedVariables false
set_option linter.unusedSimpArgs false
namespace Go.Proofs.YteifdlklpdjkkaaDoor.Q
/-- What the laws of chapter 27 need of a program. -/
structure ProgP (p : AProgram) : Prop where
  len : 1 ≤ p.Funcs.length ∧ p.Funcs.length ≤ 80
  code : ∀ i, inN i p.Funcs.length → (atD p.Funcs i).Code.length ≤ 801
  call : ∀ i, inN i p.Funcs.length → ∀ x ∈ (atD p.Funcs i).Code, x.Op = 22 → inN x.A p.Funcs.length
theorem WfI.call27 {n i par : Int} {sl : List ASlot} {J : Int → Prop} {x : AInstr} (h : WfI n i par sl J x) (ho : x.Op = 22) : i < x.A ∧ x.A < n := by
  cases h with
  | call f h1 h2 => exact ⟨h1, h2⟩
  | _ => exfalso; dsimp only at ho; omega
theorem WfP.prog {p : AProgram} (h : WfP p) : ProgP p := ⟨h.len, fun i hi => by have := (h.func i hi.1 hi.2).code; omega, fun i hi x hx ho => by
  have := ((h.func i hi.1 hi.2).instr x hx).call27 ho
  have := hi.1
  exact ⟨by omega, by omega⟩⟩
theorem WfI.jmp27 {n i par m : Int} {sl : List ASlot} {x : AInstr} (h : WfI n i par sl (fun t => inN t m) x) : (x.Op = 20 → inN x.A m) ∧ (x.Op = 21 → inN x.B m) := by
  cases h with
  | jump t ht => exact ⟨fun _ => ht, fun h => by dsimp only at h; omega⟩
  | branch a t ha ht => exact ⟨fun h => by dsimp only at h; omega, fun _ => ht⟩
  | _ => exact ⟨fun h => by exfalso; dsimp only at h; omega, fun h => by exfalso; dsimp only at h; omega⟩
theorem shifted27_sp (code : List AInstr) (hl : code.length ≤ 1000) (hj : ∀ x ∈ code, (x.Op = 20 → inN x.A 1000) ∧ (x.Op = 21 → inN x.B 1000)) : WP (draw_shifted code) fun r => r.length = code.length ∧ ∀ k, inN k code.length → (atD r k).Op = (atD code k).Op ∧ ((atD code k).Op = 22 → (atD r k).A = (atD code k).A) := by
  unfold draw_shifted
  (repeat' (first | (refine WP.chk (by (first | omega | (simp only [okI, List.length_append, List.length_cons, List.length_nil, length_setD, length_repD] at *; omega))) fun _ => ?_) | ((refine WP.bif (fun wh => ?_) (fun wh => ?_)) <;> (try simp only [wpH, ne_eq] at wh) <;> (try (exfalso; omega)))))
  refine WP.loop (fun j => 0 ≤ j.1 ∧ j.2.length = code.length ∧ ∀ k, inN k code.length → (j.1 ≤ k → atD j.2 k = atD code k) ∧ (atD j.2 k).Op = (atD code k).Op ∧ ((atD code k).Op = 22 → (atD j.2 k).A = (atD code k).A)) (fun j => code.length - j.1.toNat) ⟨Int.le_refl _, rfl, fun k hk => ⟨fun _ => rfl, rfl, fun _ => rfl⟩⟩ ?_
  rintro again ⟨k, out⟩ ⟨h1, h2, h3⟩ ih
  dsimp only at h1 h2 h3 ih ⊢
  refine WP.bif (fun wh => ?_) (fun wh => ?_) <;> (try simp only [wpH, ne_eq] at wh)
  · have hk : inN k code.length := ⟨h1, by omega⟩
    have hat := (h3 k hk).1 (Int.le_refl _)
    have hjm := hj _ (atD_mem hk)
    have hset : ∀ y : AInstr, y.Op = (atD code k).Op → (y.Op ≠ 22) → ∀ k', inN k' code.length → (k + 1 ≤ k' → atD (setD out k y) k' = atD code k') ∧ (atD (setD out k y) k').Op = (atD code k').Op ∧ ((atD code k').Op = 22 → (atD (setD out k y) k').A = (atD code k').A) := fun y hy hn k' hk' => by
      rw [atD_setD ⟨h1, by omega⟩ hk'.1]
      by_cases he : k' = k
      · subst he
        rw [if_pos rfl]
        exact ⟨fun h => by omega, hy, fun h => absurd (hy.trans h) hn⟩
      · rw [if_neg he]
        exact ⟨fun h => (h3 k' hk').1 (by omega), (h3 k' hk').2⟩
    rw [hat]
    refine WP.chk ⟨h1, by omega⟩ fun _ => ?_
    refine WP.bif (fun wh => ?_) (fun wh => ?_) <;> (try simp only [wpH, ne_eq] at wh)
    · have := hjm.1 wh
      obtain ⟨a1, a2⟩ := this
      refine WP.chk ⟨h1, by omega⟩ fun _ => WP.chk ⟨by omega, by omega⟩ fun _ => WP.chk ⟨h1, by omega⟩ fun _ => WP.chk ⟨by omega, by omega⟩ fun _ => ?_
      exact ih _ ⟨by dsimp only; omega, by dsimp only; rw [length_setD]; exact h2, hset _ rfl (by show (atD code k).Op ≠ 22; omega)⟩ (by dsimp only; omega)
    · refine WP.bif (fun wh => ?_) (fun wh => ?_) <;> (try simp only [wpH, ne_eq] at wh)
      · have := hjm.2 wh
        obtain ⟨a1, a2⟩ := this
        refine WP.chk ⟨h1, by omega⟩ fun _ => WP.chk ⟨by omega, by omega⟩ fun _ => WP.chk ⟨h1, by omega⟩ fun _ => WP.chk ⟨by omega, by omega⟩ fun _ => ?_
        exact ih _ ⟨by dsimp only; omega, by dsimp only; rw [length_setD]; exact h2, hset _ rfl (by show (atD code k).Op ≠ 22; omega)⟩ (by dsimp only; omega)
      · refine WP.chk ⟨by omega, by omega⟩ fun _ => ?_
        exact ih _ ⟨by dsimp only; omega, h2, fun k' hk' => ⟨fun h => (h3 k' hk').1 (by dsimp only at h; omega), (h3 k' hk').2⟩⟩ (by dsimp only; omega)
  · exact WP.ret ⟨h2, fun k' hk' => (h3 k' hk').2⟩
theorem only27_sp (p : AProgram) (i : Int) (f : AFunc) (hl : p.Funcs.length ≤ 80) (hi : inN i p.Funcs.length) : WP (r31_Only p i f) (· = ⟨setD p.Funcs i f⟩) := by
  unfold r31_Only r21_Replace
  refine WP.call (R := fun x => x = ⟨setD p.Funcs i f⟩) (WP.chk (by omega) fun _ => WP.chk hi fun _ => WP.ret rfl) ?_
  rintro _ rfl
  exact WP.ret rfl
theorem cyclic27_sp (c : DCodes) (p : AProgram) (hc : okC c) (hp : WfP p) : WP (draw_Cyclic c p) fun r => okC r.2 ∧ ProgP r.1 := by
  have hl := hp.len
  unfold draw_Cyclic
  refine WP.call (next_sp c _ hc (by omega)) fun x1 ⟨h1, h2, h3, _⟩ => ?_
  have h3 := h3 (by omega)
  have hi : inN x1.1 p.Funcs.length := ⟨h2, h3⟩
  refine WP.chk hi fun _ => ?_
  refine WP.call (next_sp _ _ h1 (by omega)) fun x2 ⟨h4, h5, h6, _⟩ => ?_
  have h6 := h6 (by omega)
  have hw := hp.func _ hi.1 hi.2
  have hcd := hw.code
  refine WP.call (shifted27_sp _ (by omega) fun x hx => ?_) fun x3 ⟨h7, h8⟩ => ?_
  · have := (hw.instr x hx).jmp27
    exact ⟨fun h => by have := this.1 h; exact ⟨this.1, by have := this.2; omega⟩, fun h => by have := this.2 h; exact ⟨this.1, by have := this.2; omega⟩⟩
  refine WP.chk (by simp only [List.length_singleton]; omega) fun _ => ?_
  refine WP.call (only27_sp p x1.1 _ hl.2 hi) ?_
  rintro _ rfl
  refine WP.ret ⟨h4, ⟨?_, fun j hj => ?_, fun j hj x hx ho => ?_⟩⟩
  · show 1 ≤ (setD p.Funcs x1.1 _).length ∧ (setD p.Funcs x1.1 _).length ≤ 80
    rw [length_setD]; exact hl
  · have hj' : inN j p.Funcs.length := by have : inN j (setD p.Funcs x1.1 _).length := hj; rwa [length_setD] at this
    show (atD (setD p.Funcs x1.1 _) j).Code.length ≤ 801
    rw [atD_setD hi hj'.1]
    split
    · show ([_] ++ x3).length ≤ 801
      simp only [List.length_append, List.length_singleton]; omega
    · have := (hp.func j hj'.1 hj'.2).code; omega
  · have hj' : inN j p.Funcs.length := by have : inN j (setD p.Funcs x1.1 _).length := hj; rwa [length_setD] at this
    have e : ((setD p.Funcs x1.1 (⟨(atD p.Funcs x1.1).Params, (atD p.Funcs x1.1).Slots, (([(⟨22, x2.1, 0, 0, 0⟩ : AInstr)] : List AInstr) ++ x3)⟩ : AFunc)).length : Int) = p.Funcs.length := by rw [length_setD]
    show inN x.A (setD p.Funcs x1.1 _).length
    have hx' : x ∈ (atD (setD p.Funcs x1.1 (⟨(atD p.Funcs x1.1).Params, (atD p.Funcs x1.1).Slots, (([(⟨22, x2.1, 0, 0, 0⟩ : AInstr)] : List AInstr) ++ x3)⟩ : AFunc)) j).Code := hx
    rw [length_setD]
    rw [atD_setD hi hj'.1] at hx'
    split at hx'
    · rcases List.mem_append.1 hx' with h | h
      · rw [one_mem h]; exact ⟨h5, h6⟩
      · obtain ⟨k, q1, q2, rfl⟩ := mem_atD h
        obtain ⟨q3, q4⟩ := h8 k ⟨q1, by omega⟩
        have hm : atD (atD p.Funcs x1.1).Code k ∈ (atD p.Funcs x1.1).Code := atD_mem ⟨q1, by omega⟩
        rw [q4 (q3.symm.trans ho)]
        have := (hw.instr _ hm).call27 (q3.symm.trans ho)
        exact ⟨by omega, by omega⟩
    · exact (WfP.prog hp).call j hj' x hx' ho
/-! ### How often -/
def isCall (j : Int) (x : AInstr) : Bool := decide (x.Op = 22 ∧ x.A = j)
def callsN (l : List AInstr) (j : Int) : Int := ((l.filter (isCall j)).length : Int)
theorem callsN_snoc (l : List AInstr) (x : AInstr) (j : Int) : callsN (l ++ [x]) j = callsN l j + (if x.Op = 22 ∧ x.A = j then 1 else 0) := by
  unfold callsN
  rw [List.filter_append, List.length_append]
  by_cases h : x.Op = 22 ∧ x.A = j
  · rw [if_pos h]; simp [isCall, h]
  · rw [if_neg h]
    have : isCall j x = false := by unfold isCall; exact decide_eq_false h
    simp [List.filter, this]
theorem callsN_le (l : List AInstr) (j : Int) : 0 ≤ callsN l j ∧ callsN l j ≤ l.length := by
  unfold callsN
  have := List.length_filter_le (isCall j) l
  omega
theorem callsN_pos {l : List AInstr} {j : Int} : 0 < callsN l j ↔ ∃ x ∈ l, x.Op = 22 ∧ x.A = j := by
  unfold callsN
  constructor
  · intro h
    have : 0 < (l.filter (isCall j)).length := by omega
    obtain ⟨x, hx⟩ := List.exists_mem_of_length_pos this
    have := List.mem_filter.1 hx
    exact ⟨x, this.1, by simpa [isCall] using this.2⟩
  · rintro ⟨x, h1, h2⟩
    have := List.length_pos_of_mem (List.mem_filter.2 ⟨h1, show isCall j x = true by simpa [isCall] using h2⟩)
    omega
def callsP (p : AProgram) (i j : Int) : Int := if 0 ≤ i ∧ i < (p.Funcs.length : Int) then callsN (atD p.Funcs i).Code j else 0
theorem mem_putM {κ α : Type} [DecidableEq κ] {l : List (κ × α)} {n : κ} {a : α} {e : κ × α} (h : e ∈ putM l n a) : e = (n, a) ∨ e ∈ l := by
  induction l with
  | nil => exact .inl (by simpa [putM] using h)
  | cons p r ih =>
    unfold putM at h
    split at h
    · rcases List.mem_cons.1 h with h | h
      · exact .inl h
      · exact .inr (List.mem_cons_of_mem _ h)
    · rcases List.mem_cons.1 h with h | h
      · exact .inr (h ▸ List.mem_cons_self)
      · exact (ih h).imp id (List.mem_cons_of_mem _)
theorem getM_mem {κ α : Type} [DecidableEq κ] {l : List (κ × α)} {n : κ} {d : α} (h : getM l n d ≠ d) : ∃ e ∈ l, e.1 = n := by
  induction l with
  | nil => exact absurd rfl h
  | cons p r ih =>
    unfold getM at h
    split at h
    · rename_i hp; exact ⟨p, List.mem_cons_self, hp⟩
    · obtain ⟨e, h1, h2⟩ := ih h
      exact ⟨e, List.mem_cons_of_mem _ h1, h2⟩
structure CntP (p : AProgram) (m : List (Arr2Int × Int)) : Prop where
  get : ∀ i j : Int, getM m ⟨i, j⟩ 0 = callsP p i j
  keys : ∀ e ∈ m, inN e.1.e0 p.Funcs.length ∧ 0 < callsN (atD p.Funcs e.1.e0).Code e.1.e1
theorem counts_sp (p : AProgram) (hp : ProgP p) : WP (callgraph_counts p) (CntP p) := by
  have hl := hp.len
  unfold callgraph_counts
  refine WP.loop (fun j => 0 ≤ j.1 ∧ j.1 ≤ p.Funcs.length ∧ (∀ i y : Int, getM j.2 ⟨i, y⟩ 0 = if 0 ≤ i ∧ i < j.1 then callsN (atD p.Funcs i).Code y else 0) ∧ ∀ e ∈ j.2, inN e.1.e0 p.Funcs.length ∧ 0 < callsN (atD p.Funcs e.1.e0).Code e.1.e1) (fun j => p.Funcs.length - j.1.toNat) ⟨Int.le_refl _, by dsimp only; omega, fun i y => ?_, fun e he => by cases he⟩ ?_
  · dsimp only
    rw [if_neg (by omega)]
    rfl
  rintro again ⟨i, m⟩ ⟨h1, h2, h3, h4⟩ ih
  dsimp only at h1 h2 h3 h4 ih ⊢
  refine WP.bif (fun wh => ?_) (fun wh => ?_) <;> (try simp only [wpH, ne_eq] at wh)
  · have hi : inN i p.Funcs.length := ⟨h1, wh⟩
    have hc := hp.code i hi
    refine WP.chk hi fun _ => ?_
    refine WP.loop (fun j => 0 ≤ j.1 ∧ j.1 ≤ (atD p.Funcs i).Code.length ∧ (∀ a y : Int, getM j.2 ⟨a, y⟩ 0 = if 0 ≤ a ∧ a < i then callsN (atD p.Funcs a).Code y else if a = i then callsN ((atD p.Funcs i).Code.take j.1.toNat) y else 0) ∧ ∀ e ∈ j.2, inN e.1.e0 p.Funcs.length ∧ 0 < callsN (atD p.Funcs e.1.e0).Code e.1.e1) (fun j => (atD p.Funcs i).Code.length - j.1.toNat) ⟨Int.le_refl _, by dsimp only; omega, fun a y => ?_, h4⟩ ?_
    · dsimp only
      rw [h3]
      split
      · rfl
      · split
        · simp [callsN]
        · rfl
    rintro again2 ⟨k, m2⟩ ⟨g1, g2, g3, g4⟩ ih2
    dsimp only at g1 g2 g3 g4 ih2 ⊢
    refine WP.bif (fun wh => ?_) (fun wh => ?_) <;> (try simp only [wpH, ne_eq] at wh)
    · have hk : inN k (atD p.Funcs i).Code.length := ⟨g1, wh⟩
      refine WP.chk hk fun _ => ?_
      have ht := take_atD hk
      refine WP.bif (fun wh => ?_) (fun wh => ?_) <;> (try simp only [wpH, ne_eq] at wh)
      · have hop := wh
        have hg : getM m2 ⟨i, (atD (atD p.Funcs i).Code k).A⟩ 0 = callsN ((atD p.Funcs i).Code.take k.toNat) (atD (atD p.Funcs i).Code k).A := by
          rw [g3, if_neg (by omega), if_pos rfl]
        have hb := callsN_le ((atD p.Funcs i).Code.take k.toNat) (atD (atD p.Funcs i).Code k).A
        have hb2 : ((atD p.Funcs i).Code.take k.toNat).length ≤ 801 := by rw [List.length_take]; omega
        rw [hg]
        refine WP.chk ⟨by omega, by omega⟩ fun _ => WP.chk ⟨by omega, by omega⟩ fun _ => ?_
        refine ih2 _ ⟨by dsimp only; omega, by dsimp only; omega, fun a y => ?_, fun e he => ?_⟩ (by dsimp only; omega)
        · dsimp only
          rw [getM_put, g3, ht, callsN_snoc]
          by_cases h : (⟨i, (atD (atD p.Funcs i).Code k).A⟩ : Arr2Int) = ⟨a, y⟩
          · rw [if_pos h]
            injection h with e1 e2
            rw [if_neg (by omega), if_pos e1.symm, if_pos ⟨hop, e2⟩, e2]
          · rw [if_neg h]
            by_cases ha : a = i
            · have : ¬ (atD (atD p.Funcs i).Code k).A = y := fun e => h (by rw [e, ha])
              rw [if_neg (fun q : _ ∧ _ => this q.2)]
              simp
            · rw [if_neg ha, if_neg ha]
        · rcases mem_putM he with rfl | he
          · exact ⟨hi, callsN_pos.2 ⟨_, atD_mem hk, hop, rfl⟩⟩
          · exact g4 e he
      · have hop := wh
        refine WP.chk ⟨by omega, by omega⟩ fun _ => ?_
        refine ih2 _ ⟨by dsimp only; omega, by dsimp only; omega, fun a y => ?_, g4⟩ (by dsimp only; omega)
        dsimp only
        rw [g3, ht, callsN_snoc, if_neg (c := _ ∧ _) (fun q : _ ∧ _ => hop q.1)]
        simp
    · refine WP.chk ⟨by omega, by omega⟩ fun _ => ?_
      refine ih _ ⟨by dsimp only; omega, by dsimp only; omega, fun a y => ?_, g4⟩ (by dsimp only; omega)
      dsimp only
      rw [g3, take_all (by omega)]
      by_cases ha : a = i
      · rw [if_neg (by omega), if_pos ha, if_pos (by omega), ha]
      · by_cases hb : 0 ≤ a ∧ a < i
        · rw [if_pos hb, if_pos (by omega)]
        · rw [if_neg hb, if_neg ha, if_neg (by omega)]
  · refine WP.ret ⟨fun a y => ?_, h4⟩
    have : i = p.Funcs.length := by omega
    rw [h3, this]
    rfl
theorem calls_sp (p : AProgram) (hp : ProgP p) (i j : Int) : WP (callgraph_Calls p i j) (· = callsP p i j) := by
  unfold callgraph_Calls
  exact WP.call (counts_sp p hp) fun m hm => WP.ret (hm.get i j)
theorem calls27_sp (p : AProgram) (hp : ProgP p) (i j : Int) : WP (r27_Calls p i j) (· = callsP p i j) := by
  unfold r27_Calls
  by_cases hi : inN i p.Funcs.length
  · have hc := hp.code i hi
    have hcp : callsP p i j = callsN (atD p.Funcs i).Code j := if_pos hi
    refine WP.loop (fun z => 0 ≤ z.2 ∧ z.2 ≤ (atD p.Funcs i).Code.length ∧ z.1 = callsN ((atD p.Funcs i).Code.take z.2.toNat) j) (fun z => (atD p.Funcs i).Code.length - z.2.toNat) ⟨Int.le_refl _, by dsimp only; omega, rfl⟩ ?_
    rintro again ⟨n, k⟩ ⟨h1, h2, h3⟩ ih
    dsimp only at h1 h2 h3 ih ⊢
    refine WP.bif (fun wh => ?_) (fun wh => ?_) <;> (try simp only [wpH, ne_eq] at wh)
    · refine WP.bif (fun wh => ?_) (fun wh => ?_) <;> (try simp only [wpH, ne_eq] at wh)
      · refine WP.chk hi fun _ => ?_
        refine WP.bif (fun wh => ?_) (fun wh => ?_) <;> (try simp only [wpH, ne_eq] at wh)
        · have hk : inN k (atD p.Funcs i).Code.length := ⟨h1, wh⟩
          have ht := take_atD hk
          have hb := callsN_le ((atD p.Funcs i).Code.take k.toNat) j
          have hb2 : ((atD p.Funcs i).Code.take k.toNat).length ≤ 801 := by rw [List.length_take]; omega
          refine WP.chk hi fun _ => WP.chk hk fun _ => ?_
          refine WP.bif (fun wh => ?_) (fun wh => ?_) <;> (try simp only [wpH, ne_eq] at wh)
          · have hop := wh
            refine WP.bif (fun wh => ?_) (fun wh => ?_) <;> (try simp only [wpH, ne_eq] at wh)
            · refine WP.chk ⟨by omega, by omega⟩ fun _ => WP.chk ⟨by omega, by omega⟩ fun _ => ?_
              refine ih _ ⟨by dsimp only; omega, by dsimp only; omega, ?_⟩ (by dsimp only; omega)
              dsimp only
              rw [ht, callsN_snoc, if_pos ⟨hop, wh⟩, h3]
            · have hA := wh
              refine WP.chk ⟨by omega, by omega⟩ fun _ => ?_
              refine ih _ ⟨by dsimp only; omega, by dsimp only; omega, ?_⟩ (by dsimp only; omega)
              dsimp only
              rw [ht, callsN_snoc, if_neg (fun q : _ ∧ _ => hA q.2), h3]; simp
          · have hop := wh
            refine WP.chk ⟨by omega, by omega⟩ fun _ => ?_
            refine ih _ ⟨by dsimp only; omega, by dsimp only; omega, ?_⟩ (by dsimp only; omega)
            dsimp only
            rw [ht, callsN_snoc, if_neg (fun q : _ ∧ _ => hop q.1), h3]; simp
        · exact WP.ret (by rw [hcp, h3, take_all (by omega)])
      · exact absurd hi.2 (by omega)
    · exact absurd hi.1 (by omega)
  · have hcp : callsP p i j = 0 := if_neg hi
    refine WP.iter 1 ?_
    show WP (M.bif _ _ _) _
    refine WP.bif (fun wh => ?_) (fun wh => ?_) <;> (try simp only [wpH, ne_eq] at wh)
    · refine WP.bif (fun wh => ?_) (fun wh => ?_) <;> (try simp only [wpH, ne_eq] at wh)
      · exact absurd ⟨by assumption, wh⟩ hi
      · exact WP.ret hcp.symm
    · exact WP.ret hcp.symm
/-! ### The graph of a program -/
def calleesS (l : List AInstr) : List Int := l.foldl (fun s x => if x.Op = 22 then addS s x.A else s) []
theorem calleesS_snoc (l : List AInstr) (x : AInstr) : calleesS (l ++ [x]) = if x.Op = 22 then addS (calleesS l) x.A else calleesS l := by
  unfold calleesS; rw [List.foldl_append]; rfl
theorem calleesS_take (l : List AInstr) : ∀ n : Nat, IsS (calleesS (l.take n)) ∧ ∀ y, y ∈ calleesS (l.take n) ↔ (∃ x ∈ l.take n, x.Op = 22 ∧ x.A = y) ∧ 0 ≤ y ∧ y < 512
  | 0 => ⟨IsS.nil, fun y => by simp [calleesS]⟩
  | n + 1 => by
    obtain ⟨h1, h2⟩ := calleesS_take l n
    by_cases hn : n < l.length
    · have e : l.take (n + 1) = l.take n ++ [l[n]] := by rw [List.take_add_one, List.getElem?_eq_getElem hn]; rfl
      rw [e, calleesS_snoc]
      split
      · rename_i ho
        refine ⟨h1.add _, fun y => ?_⟩
        rw [mem_addS, h2]
        constructor
        · rintro (⟨⟨x, q1, q2⟩, q3⟩ | ⟨rfl, q3⟩)
          · exact ⟨⟨x, List.mem_append_left _ q1, q2⟩, q3⟩
          · exact ⟨⟨_, List.mem_append_right _ List.mem_cons_self, ho, rfl⟩, q3⟩
        · rintro ⟨⟨x, q1, q2, q4⟩, q3⟩
          rcases List.mem_append.1 q1 with q1 | q1
          · exact .inl ⟨⟨x, q1, q2, q4⟩, q3⟩
          · rw [one_mem q1] at q4
            exact .inr ⟨q4.symm, by rw [q4]; exact q3⟩
      · rename_i ho
        refine ⟨h1, fun y => ?_⟩
        rw [h2]
        constructor
        · rintro ⟨⟨x, q1, q2⟩, q3⟩
          exact ⟨⟨x, List.mem_append_left _ q1, q2⟩, q3⟩
        · rintro ⟨⟨x, q1, q2, q4⟩, q3⟩
          rcases List.mem_append.1 q1 with q1 | q1
          · exact ⟨⟨x, q1, q2, q4⟩, q3⟩
          · rw [one_mem q1] at q2; exact absurd q2 ho
    · rw [List.take_of_length_le (by omega)]
      rw [List.take_of_length_le (by omega)] at h1 h2
      exact ⟨h1, h2⟩
theorem calleesS_ok (l : List AInstr) : IsS (calleesS l) ∧ ∀ y, y ∈ calleesS l ↔ 0 < callsN l y ∧ 0 ≤ y ∧ y < 512 := by
  have := calleesS_take l l.length
  rw [List.take_of_length_le (Nat.le_refl _)] at this
  exact ⟨this.1, fun y => by rw [this.2, callsN_pos]⟩
def ofS (p : AProgram) : List (List Int) := p.Funcs.map fun f => calleesS f.Code
theorem ofS_length (p : AProgram) : (ofS p).length = p.Funcs.length := List.length_map ..
theorem ofS_at (p : AProgram) {i : Int} (hi : inN i p.Funcs.length) : atD (ofS p) i = calleesS (atD p.Funcs i).Code := by
  obtain ⟨n, rfl⟩ := Int.eq_ofNat_of_zero_le hi.1
  have hn : n < p.Funcs.length := by have := hi.2; omega
  rw [atD_nat (by rw [ofS_length]; exact hn), atD_nat hn]
  simp [ofS]
theorem of_sp (p : AProgram) (hp : ProgP p) : WP (callgraph_Of p) (· = ofS p) := by
  have hl := hp.len
  unfold callgraph_Of
  refine WP.chk (by omega) fun _ => ?_
  refine WP.call (counts_sp p hp) fun m hm => ?_
  refine WP.loop (fun z => z.1.length = p.Funcs.length ∧ z.2.Nodup ∧ (∀ t ∈ z.2, t < m.length) ∧ ∀ i, inN i p.Funcs.length → IsS (atD z.1 i) ∧ ∀ y, y ∈ atD z.1 i ↔ (∃ t ∈ z.2, (atD m (t : Int)).1 = ⟨i, y⟩) ∧ 0 ≤ y ∧ y < 512) (fun z => m.length - z.2.length) ⟨by dsimp only; rw [length_repD]; omega, List.nodup_nil, fun t ht => (by cases ht), fun i hi => ?_⟩ ?_
  · dsimp only
    rw [rep27]
    exact ⟨IsS.nil, fun y => ⟨fun h => (by cases h), fun h => (by obtain ⟨⟨t, ht, _⟩, _⟩ := h; cases ht)⟩⟩
  rintro again ⟨g, seen⟩ ⟨h1, h2, h3, h4⟩ ih
  dsimp only at h1 h2 h3 h4 ih ⊢
  refine WP.nxt (ofS p) (fun hall => WP.ret ?_) (fun t ht hns => ?_) rfl
  · refine ext27 (by rw [ofS_length]; exact h1) fun i hi => ?_
    have hi' : inN i p.Funcs.length := by rw [← h1]; exact hi
    obtain ⟨q1, q2⟩ := h4 i hi'
    obtain ⟨q3, q4⟩ := calleesS_ok (atD p.Funcs i).Code
    rw [ofS_at p hi']
    refine q1.ext q3 fun y => ?_
    rw [q2, q4]
    refine and_congr ⟨?_, fun h => ?_⟩ Iff.rfl
    · rintro ⟨t, ht, he⟩
      have := (hm.keys _ (atD_mem (l := m) (i := (t : Int)) ⟨by omega, by have := h3 t ht; omega⟩)).2
      rw [he] at this
      exact this
    · have : getM m (⟨i, y⟩ : Arr2Int) 0 ≠ 0 := by
        rw [hm.get, callsP, if_pos (show 0 ≤ i ∧ i < (p.Funcs.length : Int) from hi')]; omega
      obtain ⟨e, q5, q6⟩ := getM_mem this
      obtain ⟨n, hn, rfl⟩ := List.getElem_of_mem q5
      exact ⟨n, hall n hn, by rw [atD_nat hn]; exact q6⟩
  · have hmem : atD m (t : Int) ∈ m := atD_mem ⟨by omega, by omega⟩
    obtain ⟨hk, _⟩ := hm.keys _ hmem
    have hkg : 0 ≤ (atD m (t : Int)).1.e0 ∧ (atD m (t : Int)).1.e0 < (g.length : Int) := by rw [h1]; exact hk
    have hle : (seen ++ [t]).length ≤ m.length := by
      have hnd : (seen ++ [t]).Nodup := List.nodup_append.2 ⟨h2, by simp, fun a ha b hb e => hns (by rw [List.mem_singleton] at hb; rw [← hb, ← e]; exact ha)⟩
      have hsub : (seen ++ [t]) ⊆ List.range m.length := fun a ha => List.mem_range.2 (by
        rcases List.mem_append.1 ha with h | h
        · exact h3 a h
        · rw [List.mem_singleton] at h; omega)
      have := nodup_length hnd hsub
      rwa [List.length_range] at this
    simp only [List.length_append, List.length_singleton] at hle
    refine WP.chk hkg fun _ => ?_
    unfold bitset_Add
    refine WP.call (R := fun x => x = setOf (atD g (atD m (t : Int)).1.e0 ++ [(atD m (t : Int)).1.e1])) (WP.ret rfl) fun x2 hx2 => ?_
    refine WP.chk hkg fun _ => ?_
    refine ih _ ⟨by dsimp only; rw [length_setD]; exact h1, ?_, fun a ha => ?_, fun i hi => ?_⟩ (by dsimp only; simp only [List.length_append, List.length_singleton]; omega)
    · exact List.nodup_append.2 ⟨h2, by simp, fun a ha b hb e => hns (by rw [List.mem_singleton] at hb; rw [← hb, ← e]; exact ha)⟩
    · rcases List.mem_append.1 ha with h | h
      · exact h3 a h
      · rw [List.mem_singleton] at h; omega
    · dsimp only
      rw [atD_setD hkg hi.1]
      by_cases he : i = (atD m (t : Int)).1.e0
      · rw [if_pos he, hx2]
        refine ⟨IsS.setOf _, fun y => ?_⟩
        obtain ⟨q1, q2⟩ := h4 _ hk
        rw [mem_setOf, List.mem_append, List.mem_singleton, q2]
        constructor
        · rintro ⟨h | h, q3⟩
          · obtain ⟨⟨t', q4, q5⟩, _⟩ := h
            exact ⟨⟨t', List.mem_append_left _ q4, by rw [q5, he]⟩, q3⟩
          · exact ⟨⟨t, List.mem_append_right _ List.mem_cons_self, by rw [he, h]⟩, q3⟩
        · rintro ⟨⟨t', q4, q5⟩, q3⟩
          refine ⟨?_, q3⟩
          rcases List.mem_append.1 q4 with q4 | q4
          · exact .inl ⟨⟨t', q4, by rw [q5, he]⟩, q3⟩
          · rw [List.mem_singleton] at q4
            subst q4
            right; rw [q5]
      · rw [if_neg he]
        obtain ⟨q1, q2⟩ := h4 i hi
        refine ⟨q1, fun y => ?_⟩
        rw [q2]
        refine and_congr ⟨?_, ?_⟩ Iff.rfl
        · rintro ⟨t', q4, q5⟩
          exact ⟨t', List.mem_append_left _ q4, q5⟩
        · rintro ⟨t', q4, q5⟩
          rcases List.mem_append.1 q4 with q4 | q4
          · exact ⟨t', q4, q5⟩
          · rw [List.mem_singleton] at q4
            subst q4
            exact absurd (by rw [q5]) he
theorem of27_sp (p : AProgram) (hp : ProgP p) : WP (r27_Of p) (· = ofS p) := by
  have hl := hp.len
  unfold r27_Of
  refine WP.chk (by omega) fun _ => ?_
  refine WP.loop (fun z => 0 ≤ z.1 ∧ z.1 ≤ p.Funcs.length ∧ z.2.length = p.Funcs.length ∧ ∀ i, inN i p.Funcs.length → atD z.2 i = if i < z.1 then calleesS (atD p.Funcs i).Code else []) (fun z => p.Funcs.length - z.1.toNat) ⟨Int.le_refl _, by dsimp only; omega, by dsimp only; rw [length_repD]; omega, fun i hi => ?_⟩ ?_
  · dsimp only
    rw [rep27, if_neg (by have := hi.1; omega)]; rfl
  rintro again ⟨i, out⟩ ⟨h1, h2, h3, h4⟩ ih
  dsimp only at h1 h2 h3 h4 ih ⊢
  refine WP.bif (fun wh => ?_) (fun wh => ?_) <;> (try simp only [wpH, ne_eq] at wh)
  · have hi : inN i p.Funcs.length := ⟨h1, wh⟩
    have hc := hp.code i hi
    refine WP.chk hi fun _ => ?_
    refine WP.loop (fun z => 0 ≤ z.1 ∧ z.1 ≤ (atD p.Funcs i).Code.length ∧ z.2.length = p.Funcs.length ∧ ∀ a, inN a p.Funcs.length → atD z.2 a = if a < i then calleesS (atD p.Funcs a).Code else if a = i then calleesS ((atD p.Funcs i).Code.take z.1.toNat) else []) (fun z => (atD p.Funcs i).Code.length - z.1.toNat) ⟨Int.le_refl _, by dsimp only; omega, h3, fun a ha => ?_⟩ ?_
    · dsimp only
      rw [h4 a ha]
      split
      · rfl
      · split <;> rfl
    rintro again2 ⟨k, out2⟩ ⟨g1, g2, g3, g4⟩ ih2
    dsimp only at g1 g2 g3 g4 ih2 ⊢
    have hio : 0 ≤ i ∧ i < (out2.length : Int) := by rw [g3]; exact hi
    refine WP.bif (fun wh => ?_) (fun wh => ?_) <;> (try simp only [wpH, ne_eq] at wh)
    · have hk : inN k (atD p.Funcs i).Code.length := ⟨g1, wh⟩
      have ht := take_atD hk
      have hg : atD out2 i = calleesS ((atD p.Funcs i).Code.take k.toNat) := by rw [g4 i hi, if_neg (by omega), if_pos rfl]
      have hle := (calleesS_take (atD p.Funcs i).Code k.toNat).1.length
      refine WP.chk hk fun _ => ?_
      refine WP.bif (fun wh => ?_) (fun wh => ?_) <;> (try simp only [wpH, ne_eq] at wh)
      · have hop := wh
        refine WP.chk hio fun _ => WP.chk hk fun _ => ?_
        refine WP.call (add_sp _ _ (by rw [hg]; omega)) ?_
        rintro _ rfl
        refine WP.chk hio fun _ => WP.chk ⟨by omega, by omega⟩ fun _ => ?_
        refine ih2 _ ⟨by dsimp only; omega, by dsimp only; omega, by dsimp only; rw [length_setD]; exact g3, fun a ha => ?_⟩ (by dsimp only; omega)
        dsimp only
        rw [atD_setD hio ha.1, ht, calleesS_snoc, if_pos hop, hg]
        by_cases he : a = i
        · rw [if_pos he, if_neg (by omega), if_pos he]
        · rw [if_neg he, g4 a ha, if_neg he, if_neg he]
      · have hop := wh
        refine WP.chk ⟨by omega, by omega⟩ fun _ => ?_
        refine ih2 _ ⟨by dsimp only; omega, by dsimp only; omega, g3, fun a ha => ?_⟩ (by dsimp only; omega)
        dsimp only
        rw [g4 a ha, ht, calleesS_snoc, if_neg hop]
    · refine WP.chk ⟨by omega, by omega⟩ fun _ => ?_
      refine ih _ ⟨by dsimp only; omega, by dsimp only; omega, g3, fun a ha => ?_⟩ (by dsimp only; omega)
      dsimp only
      rw [g4 a ha, take_all (by omega)]
      by_cases he : a = i
      · rw [if_neg (by omega), if_pos he, if_pos (by omega), he]
      · by_cases hlt : a < i
        · rw [if_pos hlt, if_pos (by omega)]
        · rw [if_neg hlt, if_neg he, if_neg (by omega)]
  · refine WP.ret (ext27 (by rw [ofS_length]; exact h3) fun a ha => ?_)
    have ha' : inN a p.Funcs.length := by rw [← h3]; exact ha
    rw [h4 a ha', if_pos (by have := ha'.2; omega), ofS_at p ha']
theorem awake27_sp : WP law27_awake (· = true) := by
  unfold law27_awake
  refine WP.call (of_sp _ ⟨⟨by simp, by simp⟩, fun i hi => ?_, fun i hi x hx ho => ?_⟩) ?_
  · have : i = 0 := by have h1 := hi.1; have h2 : i < 1 := hi.2; omega
    subst this
    show 2 ≤ 801
    omega
  · have : i = 0 := by have h1 := hi.1; have h2 : i < 1 := hi.2; omega
    subst this
    have hx' : x ∈ [(⟨22, 0, 0, 0, 0⟩ : AInstr), ⟨23, 0, 0, 0, 0⟩] := hx
    rcases List.mem_cons.1 hx' with rfl | hx'
    · exact ⟨Int.le_refl _, by show (0 : Int) < 1; omega⟩
    · rw [one_mem hx'] at ho; cases ho
  · rintro _ rfl
    refine WP.bif (fun _ => ?_) (fun wh => absurd wh (by decide))
    refine WP.chk (by decide) fun _ => WP.ret (by decide)
end Go.Proofs.YteifdlklpdjkkaaDoor.Q
