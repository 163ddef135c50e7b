/- Programs that are right: what the reference's check says of them; the law RewriteKeepsPrograms. -/
import Derived.Test.YtlhaoijkffhafaaGreatDoorP21f
set_option linter.unusedVariables false
set_option linter.unusedSimpArgs false
namespace Go.Proofs.YtlhaoijkffhafaaGreatDoor.Q
theorem WP.join_iff {α γ : Type} {K : γ → M α} {B : (γ → M α) → M α} {Q : α → Prop} : WP (M.join K B) Q ↔ WP (B K) Q :=
  ⟨fun ⟨r, h1, h2⟩ => ⟨r, M.join_iff.1 h1, h2⟩, fun ⟨r, h1, h2⟩ => ⟨r, M.join_iff.2 h1, h2⟩⟩
theorem within5_sp (k n : Int) : WP (r05_within k n) (· = decide (0 ≤ k ∧ k < n)) := by
  unfold r05_within
  refine WP.bif (fun wh => ?_) (fun wh => ?_) <;> (try simp only [decide_eq_true_eq, decide_eq_false_iff_not, Bool.not_eq_true', Bool.not_eq_false', Bool.and_eq_true, Bool.or_eq_true, Bool.not_eq_true, Bool.not_eq_false, Int.not_lt, Int.not_le, ne_eq] at wh)
  · exact WP.ret (by simp [wh])
  · exact WP.ret (by simp; omega)
theorem operands_sp {n i par : Int} {J : Int → Prop} {p : AProgram} {f : AFunc} {x : AInstr} (hn : n = p.Funcs.length) (hpar : par = f.Params) (hi : 0 ≤ i) (h : WfI n i par f.Slots J x) : WP (r05_operands p f x) (· = true) := by
  subst hn hpar
  cases h with
  | const a w h1 h2 => obtain ⟨a1, a2⟩ := h1; simp [r05_operands, r05_register, r05_within, WP.join_iff, WP.bif_iff, WP.chk_iff, WP.call_iff, WP.ret_iff]; omega
  | copy o a b h1 h2 h3 => obtain ⟨a1, a2⟩ := h2; obtain ⟨b1, b2⟩ := h3; rcases h1 with rfl | rfl <;> (simp [r05_operands, r05_register, r05_within, WP.join_iff, WP.bif_iff, WP.chk_iff, WP.call_iff, WP.ret_iff]; omega)
  | arith o a b c h1 h2 h3 h4 h5 =>
    obtain ⟨a1, a2⟩ := h3; obtain ⟨b1, b2⟩ := h4; obtain ⟨c1, c2⟩ := h5
    have : o = 2 ∨ o = 3 ∨ o = 4 ∨ o = 5 ∨ o = 6 ∨ o = 7 ∨ o = 8 ∨ o = 9 ∨ o = 10 ∨ o = 11 := by omega
    rcases this with rfl | rfl | rfl | rfl | rfl | rfl | rfl | rfl | rfl | rfl <;> (simp [r05_operands, r05_register, r05_within, WP.join_iff, WP.bif_iff, WP.chk_iff, WP.call_iff, WP.ret_iff]; omega)
  | io o a h1 h2 => obtain ⟨a1, a2⟩ := h2; rcases h1 with rfl | rfl <;> (simp [r05_operands, r05_register, r05_within, WP.join_iff, WP.bif_iff, WP.chk_iff, WP.call_iff, WP.ret_iff]; omega)
  | load a s h1 h2 => obtain ⟨a1, a2⟩ := h1; obtain ⟨b1, b2⟩ := h2; simp [r05_operands, r05_register, r05_within, WP.join_iff, WP.bif_iff, WP.chk_iff, WP.call_iff, WP.ret_iff]; omega
  | store s a h1 h2 => obtain ⟨a1, a2⟩ := h1; obtain ⟨b1, b2⟩ := h2; simp [r05_operands, r05_register, r05_within, WP.join_iff, WP.bif_iff, WP.chk_iff, WP.call_iff, WP.ret_iff]; omega
  | move s t h1 h2 h3 => obtain ⟨a1, a2⟩ := h1; obtain ⟨b1, b2⟩ := h2; simp [r05_operands, r05_register, r05_within, WP.join_iff, WP.bif_iff, WP.chk_iff, WP.call_iff, WP.ret_iff]; omega
  | arg a r h1 h2 => obtain ⟨a1, a2⟩ := h1; obtain ⟨b1, b2⟩ := h2; simp [r05_operands, r05_register, r05_within, WP.join_iff, WP.bif_iff, WP.chk_iff, WP.call_iff, WP.ret_iff]; omega
  | param a k h1 h2 => obtain ⟨a1, a2⟩ := h1; obtain ⟨b1, b2⟩ := h2; simp [r05_operands, r05_register, r05_within, WP.join_iff, WP.bif_iff, WP.chk_iff, WP.call_iff, WP.ret_iff]; omega
  | jump t h1 => simp [r05_operands, r05_register, r05_within, WP.join_iff, WP.bif_iff, WP.chk_iff, WP.call_iff, WP.ret_iff]
  | branch a t h1 h2 => obtain ⟨a1, a2⟩ := h1; simp [r05_operands, r05_register, r05_within, WP.join_iff, WP.bif_iff, WP.chk_iff, WP.call_iff, WP.ret_iff]; omega
  | call g h1 h2 => simp [r05_operands, r05_register, r05_within, WP.join_iff, WP.bif_iff, WP.chk_iff, WP.call_iff, WP.ret_iff]; omega
  | ret => simp [r05_operands, r05_register, r05_within, WP.join_iff, WP.bif_iff, WP.chk_iff, WP.call_iff, WP.ret_iff]
  | trap w h1 => simp [r05_operands, r05_register, r05_within, WP.join_iff, WP.bif_iff, WP.chk_iff, WP.call_iff, WP.ret_iff]
def formB (x : AInstr) (q : Bool × Bool × Bool × Bool) : Prop := (q.1 = false → x.A = 0) ∧ (q.2.1 = false → x.B = 0) ∧ (q.2.2.1 = false → x.C = 0) ∧ (q.2.2.2 = false → x.Imm = 0)
theorem Operands_sp {n i par : Int} {sl : List ASlot} {J : Int → Prop} {x : AInstr} (h : WfI n i par sl J x) : WP (r05_Operands x.Op) (formB x) ∧ 0 ≤ x.Op ∧ x.Op < 25 := by
  cases h with
  | copy o a b h1 h2 h3 => rcases h1 with rfl | rfl <;> simp [r05_Operands, formB, WP.join_iff, WP.bif_iff, WP.ret_iff]
  | arith o a b c h1 h2 h3 h4 h5 =>
    have : o = 2 ∨ o = 3 ∨ o = 4 ∨ o = 5 ∨ o = 6 ∨ o = 7 ∨ o = 8 ∨ o = 9 ∨ o = 10 ∨ o = 11 := by omega
    rcases this with rfl | rfl | rfl | rfl | rfl | rfl | rfl | rfl | rfl | rfl <;> simp [r05_Operands, formB, WP.join_iff, WP.bif_iff, WP.ret_iff]
  | io o a h1 h2 => rcases h1 with rfl | rfl <;> simp [r05_Operands, formB, WP.join_iff, WP.bif_iff, WP.ret_iff]
  | _ => simp [r05_Operands, formB, WP.join_iff, WP.bif_iff, WP.ret_iff]
theorem checkInstr_sp {p : AProgram} (hp : WfP p) {i k : Int} (hi : inN i p.Funcs.length) (hk : inN k (atD p.Funcs i).Code.length) : WP (r05_CheckInstr p i k) (· = 0) := by
  have hf := hp.func i hi.1 hi.2
  have hI := hf.at_ hk
  obtain ⟨j1, j2⟩ := jump_in hf hk
  unfold r05_CheckInstr
  refine WP.call (within5_sp _ _) ?_
  rintro _ rfl
  refine WP.bif (fun wh => by exfalso; obtain ⟨q1, q2⟩ := hi; simp at wh; omega) fun _ => ?_
  refine WP.chk hi fun _ => ?_
  refine WP.call (within5_sp _ _) ?_
  rintro _ rfl
  refine WP.bif (fun wh => by exfalso; obtain ⟨q1, q2⟩ := hk; simp at wh; omega) fun _ => ?_
  refine WP.chk hi fun _ => ?_
  refine WP.chk hk fun _ => ?_
  obtain ⟨o1, o2, o3⟩ := Operands_sp hI
  have hops := operands_sp (p := p) (f := atD p.Funcs i) rfl rfl hi.1 hI
  have hmv : (atD (atD p.Funcs i).Code k).Op = 17 → inN (atD (atD p.Funcs i).Code k).A (atD p.Funcs i).Slots.length ∧ inN (atD (atD p.Funcs i).Code k).B (atD p.Funcs i).Slots.length ∧ (atD (atD p.Funcs i).Slots (atD (atD p.Funcs i).Code k).A).Size = (atD (atD p.Funcs i).Slots (atD (atD p.Funcs i).Code k).B).Size := fun h17 => by
    generalize atD (atD p.Funcs i).Code k = x at *
    cases hI <;> first | exact ⟨by assumption, by assumption, by assumption⟩ | (simp at h17; done) | (exfalso; dsimp only at h17; omega)
  clear hI
  generalize atD p.Funcs i = f at *
  generalize atD f.Code k = x at *
  refine WP.call (within5_sp _ _) ?_
  rintro _ rfl
  refine WP.bif (fun wh => by exfalso; simp at wh; omega) fun _ => ?_
  refine WP.call o1 fun q ⟨e1, e2, e3, e4⟩ => ?_
  refine WP.join (fun b => b = false) ?_ ?_
  · rintro _ rfl
    refine WP.bif (fun wh => by cases wh) fun _ => ?_
    refine WP.call hops ?_
    rintro _ rfl
    refine WP.bif (fun wh => by cases wh) fun _ => ?_
    refine WP.join (fun _ => True) ?_ ?_
    · intro _ _
      refine WP.bif (fun wh => ?_) (fun wh => ?_) <;> (try simp only [decide_eq_true_eq, decide_eq_false_iff_not, Bool.not_eq_true', Bool.not_eq_false', Bool.and_eq_true, Bool.or_eq_true, Bool.not_eq_true, Bool.not_eq_false, Int.not_lt, Int.not_le, ne_eq] at wh)
      · obtain ⟨q1, q2⟩ := j1 wh
        have h20 := wh
        refine WP.call (within5_sp _ _) ?_
        rintro _ rfl
        refine WP.bif (fun wh => by exfalso; simp at wh; omega) fun _ => ?_
        exact WP.bif (fun wh => by exfalso; simp at wh; omega) fun _ => WP.ret rfl
      · refine WP.bif (fun wh => ?_) (fun _ => WP.ret rfl) <;> (try simp only [decide_eq_true_eq, decide_eq_false_iff_not, Bool.not_eq_true', Bool.not_eq_false', Bool.and_eq_true, Bool.or_eq_true, Bool.not_eq_true, Bool.not_eq_false, Int.not_lt, Int.not_le, ne_eq] at wh)
        obtain ⟨q1, q2⟩ := j2 wh
        refine WP.call (within5_sp _ _) ?_
        rintro _ rfl
        exact WP.bif (fun wh => by exfalso; simp at wh; omega) fun _ => WP.ret rfl
    · intro k3 hk3
      refine WP.bif (fun wh => ?_) (fun _ => hk3 _ trivial) <;> (try simp only [decide_eq_true_eq, decide_eq_false_iff_not, Bool.not_eq_true', Bool.not_eq_false', Bool.and_eq_true, Bool.or_eq_true, Bool.not_eq_true, Bool.not_eq_false, Int.not_lt, Int.not_le, ne_eq] at wh)
      obtain ⟨m1, m2, m3⟩ := hmv wh
      refine WP.chk m1 fun _ => ?_
      refine WP.chk m2 fun _ => ?_
      exact WP.bif (fun wh => by exfalso; rw [Bool.not_eq_true', decide_eq_false_iff_not] at wh; exact wh m3) fun _ => hk3 _ trivial
  · intro k2 hk2
    obtain ⟨qa, qb, qc, qd⟩ := q
    dsimp only at e1 e2 e3 e4 ⊢
    have hf := hk2 _ rfl
    cases qa <;> cases qb <;> cases qc <;> cases qd <;> simp_all [WP.bif_iff]
theorem terminator_sp (o : Int) (h : o = 23 ∨ o = 24) : WP (r05_Terminator o) (· = true) := by
  unfold r05_Terminator
  rcases h with rfl | rfl <;> simp [WP.bif_iff, WP.ret_iff]
theorem checkFunc_sp {p : AProgram} (hp : WfP p) {i : Int} (hi : inN i p.Funcs.length) : WP (r05_CheckFunc p i) (· = 0) := by
  have hf := hp.func i hi.1 hi.2
  have hc := hf.code
  have hsl := hf.slots
  have hpar := hp.par _ (atD_mem hi)
  have hci := fun k hk => checkInstr_sp hp hi (k := k) hk
  unfold r05_CheckFunc
  refine WP.call (within5_sp _ _) ?_
  rintro _ rfl
  refine WP.bif (fun wh => by exfalso; obtain ⟨q1, q2⟩ := hi; simp at wh; omega) fun _ => ?_
  refine WP.chk hi fun _ => ?_
  generalize atD p.Funcs i = f at *
  refine WP.bif (fun wh => by exfalso; rw [decide_eq_true_eq] at wh; omega) fun _ => ?_
  refine WP.call (slots3_sp f.Slots (by omega)) ?_
  rintro _ rfl
  rw [slotsE_right (by omega) hf.rightS]
  refine WP.bif (fun wh => by simp at wh) fun _ => ?_
  refine WP.bif (fun wh => by exfalso; rw [decide_eq_true_eq] at wh; omega) fun _ => ?_
  refine WP.bif (fun wh => by exfalso; rw [decide_eq_true_eq] at wh; omega) fun _ => ?_
  refine WP.loop (fun j => 0 ≤ j ∧ j ≤ f.Code.length) (fun j => f.Code.length - j.toNat) ⟨by omega, by omega⟩ ?_
  rintro again k ⟨a1, a2⟩ ih
  refine WP.bif (fun wh => ?_) (fun wh => ?_) <;> (try simp only [decide_eq_true_eq, decide_eq_false_iff_not, Bool.not_eq_true', Bool.not_eq_false', Bool.and_eq_true, Bool.or_eq_true, Bool.not_eq_true, Bool.not_eq_false, Int.not_lt, Int.not_le, ne_eq] at wh)
  · refine WP.call (hci k ⟨a1, wh⟩) ?_
    rintro _ rfl
    refine WP.bif (fun wh => by simp at wh) fun _ => ?_
    refine WP.chk ⟨by omega, by omega⟩ fun _ => ?_
    exact ih _ ⟨by omega, by omega⟩ (by omega)
  · refine WP.bif (fun wh => by exfalso; rw [decide_eq_true_eq] at wh; omega) fun _ => ?_
    refine WP.chk ⟨by omega, by omega⟩ fun _ => ?_
    refine WP.chk ⟨by omega, by omega⟩ fun _ => ?_
    refine WP.call (terminator_sp _ hf.last) ?_
    rintro _ rfl
    exact WP.bif (fun wh => by cases wh) fun _ => WP.ret rfl
theorem check5_sp {p : AProgram} (hp : WfP p) : WP (r05_Check p) (· = 0) := by
  have hl := hp.len
  have he := hp.entry
  have hcf := fun i hi => checkFunc_sp hp (i := i) hi
  unfold r05_Check
  refine WP.bif (fun wh => by exfalso; rw [decide_eq_true_eq] at wh; omega) fun _ => ?_
  refine WP.bif (fun wh => by exfalso; rw [decide_eq_true_eq] at wh; omega) fun _ => ?_
  refine WP.chk ⟨by omega, by omega⟩ fun _ => ?_
  refine WP.bif (fun wh => by exfalso; rw [Bool.not_eq_true', decide_eq_false_iff_not] at wh; exact wh he) fun _ => ?_
  refine WP.loop (fun j => 0 ≤ j ∧ j ≤ p.Funcs.length) (fun j => p.Funcs.length - j.toNat) ⟨by omega, by omega⟩ ?_
  rintro again k ⟨a1, a2⟩ ih
  refine WP.bif (fun wh => ?_) (fun _ => WP.ret rfl) <;> (try simp only [decide_eq_true_eq, decide_eq_false_iff_not, Bool.not_eq_true', Bool.not_eq_false', Bool.and_eq_true, Bool.or_eq_true, Bool.not_eq_true, Bool.not_eq_false, Int.not_lt, Int.not_le, ne_eq] at wh)
  refine WP.call (hcf k ⟨a1, wh⟩) ?_
  rintro _ rfl
  refine WP.bif (fun wh => by simp at wh) fun _ => ?_
  refine WP.chk ⟨by omega, by omega⟩ fun _ => ?_
  exact ih _ ⟨by omega, by omega⟩ (by omega)
theorem pl_RewriteKeepsPrograms (cs : List Int) (h : isU8 cs) : WP (law21_RewriteKeepsPrograms cs) (· = true) := by
  unfold law21_RewriteKeepsPrograms
  refine WP.call awake21_sp ?_
  rintro _ rfl
  refine WP.bif (fun wh => by cases wh) fun _ => ?_
  refine WP.call (scene21_sp cs h) fun x2 ⟨hp, hi, hl1, hl2⟩ => ?_
  have hf := hp.func _ hi.1 hi.2
  have hpl := hp.len
  have hpar := hf.parq
  generalize x2.2.2.1 = r at *
  refine WP.chk hi fun _ => ?_
  refine WP.call (rwapply_sp hf r) fun x3 ⟨g1, g2⟩ => ?_
  by_cases hvk : ValidP (atD x2.1.Funcs x2.2.1) r.To ∧ KeepP (atD x2.1.Funcs x2.2.1) r.Keep
  case neg =>
    rw [g2 hvk]
    refine WP.bif (fun _ => ?_) (fun wh => by simp at wh)
    refine WP.chk hi fun _ => ?_
    refine WP.call (check21X_sp hf r) fun x4 ⟨_, c2⟩ => ?_
    rw [c2 hvk]
    exact WP.ret (by simp)
  obtain ⟨g1, nums, hN, e⟩ := g1 hvk
  obtain ⟨hv, hk⟩ := hvk
  have hg := appF_wf hf hv hk hN
  rw [← e] at hg
  rw [g1]
  refine WP.bif (fun wh => by simp at wh) (fun _ => ?_)
  have hp' := hp.replace hi hg
  unfold r21_Replace
  refine WP.call (R := (· = ⟨setD x2.1.Funcs x2.2.1 x3.1⟩)) ?_ ?_
  · refine WP.chk (by omega) fun _ => ?_
    exact WP.chk hi fun _ => WP.ret rfl
  rintro _ rfl
  refine WP.call (check5_sp hp') ?_
  rintro _ rfl
  refine WP.bif (fun _ => ?_) (fun wh => by simp at wh)
  have hcl : (x3.1.Code.length : Int) = cntK r.Keep (atD x2.1.Funcs x2.2.1).Code.length := by rw [e]; exact codeOf_length (f := atD x2.1.Funcs x2.2.1) r.Keep nums (plL r.Keep) _
  have hcb := cntK_bd r.Keep (atD x2.1.Funcs x2.2.1).Code.length
  have hU := usedS_U hf hv hk
  have hul := asc_short hU.set hU.lt
  have hsl2 : x3.1.Slots.length = (usedS (atD x2.1.Funcs x2.2.1) r).length := by rw [e]; exact List.length_map ..
  refine WP.chk hi fun _ => ?_
  refine WP.bif (fun _ => ?_) (fun wh => by exfalso; rw [decide_eq_false_iff_not] at wh; omega)
  refine WP.chk hi fun _ => ?_
  refine WP.bif (fun _ => ?_) (fun wh => by exfalso; rw [decide_eq_false_iff_not] at wh; omega)
  refine WP.chk hi fun _ => ?_
  refine WP.ret ?_
  rw [decide_eq_true_eq, hg.parq]
end Go.Proofs.YtlhaoijkffhafaaGreatDoor.Q
