/- Lowering: targets that are right; the law LowerGivesRightTargets. -/
import Derived.Test.YtjnfnochdefpjaaGreatP26
set_option linter.unusedVariables false
set_option linter.unusedSimpArgs false
namespace Go.Proofs.YtjnfnochdefpjaaGreat.Q
theorem WP.join_iff26 {α γ : Type} {K : γ → M α} {B : (γ → M α) → M α} {Q : α → Prop} : WP (M.join K B) Q ↔ WP (B K) Q :=
  ⟨fun ⟨r, h1, h2⟩ => ⟨r, M.join_iff.1 h1, h2⟩, fun ⟨r, h1, h2⟩ => ⟨r, M.join_iff.2 h1, h2⟩⟩
theorem within10_sp (k n : Int) : WP (r10_within k n) (· = decide (0 ≤ k ∧ k < n)) := by
  unfold r10_within
  refine WP.bif (fun wh => ?_) (fun wh => ?_) <;> (try simp only [wpH, ne_eq] at wh)
  · exact WP.ret (by simp [wh])
  · exact WP.ret (by simp; omega)
section
variable {p : AProgram} {i al : Int} {y : ALayout}
theorem placed_sp (hp : WfP p) (hi : inN i p.Funcs.length) (h : ShapeP p i al y) {k : Int} (hk : inN k (atD p.Funcs i).Slots.length) : WP (layout_subject_placed ⟨p, i, al, atD p.Funcs i, y⟩ k) (· = true) := by
  have hsl := hp.slotsR (atD_mem hi)
  have hA := argsN_R hp hi (l := (atD p.Funcs i).Code) fun x hx => hx
  obtain ⟨o1, o2, o3⟩ := h.off k hk
  obtain ⟨s1, s2, s3⟩ := h.sz
  have sa := h.args
  have sl := h.len
  have hr := hsl.2 _ (atD_mem hk)
  obtain ⟨hr1, hr2⟩ := hr
  obtain ⟨k1, k2⟩ := hk
  unfold layout_subject_placed
  dsimp only
  refine WP.chk ⟨k1, by omega⟩ fun _ => ?_
  refine WP.bif (fun _ => ?_) (fun wh => by exfalso; rw [decide_eq_false_iff_not] at wh; omega)
  refine WP.chk ⟨k1, k2⟩ fun _ => ?_
  refine WP.chk ⟨by omega, by omega⟩ fun _ => ?_
  refine WP.bif (fun _ => ?_) (fun wh => by exfalso; rw [decide_eq_false_iff_not] at wh; exact wh o2)
  unfold layout_subject_interval
  dsimp only
  refine WP.call (R := (· = ⟨atD y.Off k, (atD (atD p.Funcs i).Slots k).Size⟩)) ?_ ?_
  · refine WP.chk ⟨k1, by omega⟩ fun _ => ?_
    exact WP.chk ⟨k1, k2⟩ fun _ => WP.ret rfl
  rintro _ rfl
  refine WP.call (inside_sp _ _ (by dsimp only; omega) (by dsimp only; omega) (by dsimp only; omega)) ?_
  rintro _ rfl
  exact WP.ret (by simp; omega)
theorem lshape_sp (hp : WfP p) (hi : inN i p.Funcs.length) (hal : al = alignP p) (h : ShapeP p i al y) : WP (layout_Shape p i al y) (· = 0) := by
  have hsl := hp.slotsR (atD_mem hi)
  have hA := argsN_R hp hi (l := (atD p.Funcs i).Code) fun x hx => hx
  obtain ⟨hp1, hp2, hp3⟩ := alP_pow hp (.inl hal)
  obtain ⟨s1, s2, s3⟩ := h.sz
  have sa := h.args
  have st := h.top
  obtain ⟨e1, e2, e3, e4⟩ := baseR_small (args := 16 * argsN p (atD p.Funcs i).Code) (al := al) (l := (atD p.Funcs i).Slots) (by omega) (by omega) hsl.1 hsl.2 hp1 (by omega)
  unfold layout_Shape layout_subject_shape
  refine WP.chk hi fun _ => ?_
  refine WP.call (R := (· = 0)) ?_ fun x hx => WP.ret hx
  dsimp only
  refine WP.call (baseline_sp hi (args24_sp p i hp hi) (by omega) (by omega) (fun s hs => (hsl.2 s hs).okS) (by omega) hp1) ?_
  intro x hx
  rw [hx, e1]
  clear hx x
  dsimp only
  refine WP.bif (fun wh => by simp at wh) fun _ => ?_
  refine WP.call (args24_sp p i hp hi) ?_
  rintro _ rfl
  refine WP.bif (fun wh => by exfalso; rw [Bool.not_eq_true', decide_eq_false_iff_not] at wh; exact wh sa) fun _ => ?_
  refine WP.bif (fun wh => by exfalso; rw [Bool.not_eq_true', decide_eq_false_iff_not] at wh; exact wh (by rw [h.len])) fun _ => ?_
  refine WP.loop (fun j => 0 ≤ j ∧ j ≤ (atD p.Funcs i).Slots.length) (fun j => (atD p.Funcs i).Slots.length - j.toNat) ⟨by omega, by omega⟩ ?_
  rintro again k ⟨a1, a2⟩ ih
  refine WP.bif (fun wh => ?_) (fun wh => ?_) <;> (try simp only [wpH, ne_eq] at wh)
  · refine WP.call (placed_sp hp hi h ⟨a1, wh⟩) ?_
    rintro _ rfl
    refine WP.bif (fun wh => by cases wh) fun _ => ?_
    refine WP.chk ⟨by omega, by omega⟩ fun _ => ?_
    exact ih _ ⟨by omega, by omega⟩ (by omega)
  · refine WP.chk ⟨by omega, by omega⟩ fun _ => ?_
    refine WP.bif (fun wh => by exfalso; rw [Bool.not_eq_true', decide_eq_false_iff_not] at wh; exact wh s3) fun _ => ?_
    refine WP.bif (fun wh => by exfalso; rw [decide_eq_true_eq] at wh; omega) fun _ => ?_
    exact WP.bif (fun wh => by exfalso; rw [decide_eq_true_eq] at wh; omega) fun _ => WP.ret rfl
end
/-- A lowered program. -/
structure LowP (p : AProgram) (al : Int) (l : List ALayout) (t : ATarget) : Prop where
  al : t.Align = al
  len : t.Frames.length = p.Funcs.length
  fr : ∀ i, inN i p.Funcs.length → atD t.Frames i = lowF (atD p.Funcs i) (atD l i)
section
variable {p : AProgram} {al : Int} {l : List ALayout}
theorem target_sp (hp : WfP p) (hal : al = alignP p) (hl : l.length = p.Funcs.length) (hS : ∀ i, inN i p.Funcs.length → ShapeP p i al (atD l i)) : WP (lower_Target p al l) fun r => r.2 = 0 ∧ LowP p al l r.1 := by
  have hpl := hp.len
  unfold lower_Target
  refine WP.bif (fun wh => by exfalso; rw [Bool.not_eq_true', decide_eq_false_iff_not] at wh; omega) fun _ => ?_
  refine WP.loop (fun j => (0 ≤ j.1 ∧ j.1 ≤ p.Funcs.length) ∧ (j.2.length : Int) = j.1 ∧ ∀ t, 0 ≤ t → t < j.1 → atD j.2 t = lowF (atD p.Funcs t) (atD l t)) (fun j => p.Funcs.length - j.1.toNat) ⟨⟨by simp, by simp⟩, by simp, fun t h1 h2 => by exfalso; dsimp only at h2; omega⟩ ?_
  rintro again ⟨i, F⟩ ⟨⟨a1, a2⟩, a3, a4⟩ ih
  dsimp only at a1 a2 a3 a4 ih ⊢
  refine WP.bif (fun wh => ?_) (fun wh => ?_) <;> (try simp only [wpH, ne_eq] at wh)
  · have hi : inN i p.Funcs.length := ⟨a1, by omega⟩
    refine WP.chk ⟨a1, wh⟩ fun _ => ?_
    refine WP.call (lshape_sp hp hi hal (hS i hi)) ?_
    rintro _ rfl
    refine WP.bif (fun wh => by simp at wh) fun _ => ?_
    refine WP.call (lframe_sp hp hi (hS i hi)) ?_
    rintro _ rfl
    refine WP.chk (by simp only [List.length_singleton]; omega) fun _ => ?_
    refine WP.chk ⟨by omega, by omega⟩ fun _ => ?_
    refine ih _ ⟨⟨by dsimp only; omega, by dsimp only; omega⟩, by simp only [List.length_append, List.length_singleton]; omega, fun t q1 q2 => ?_⟩ (by dsimp only; omega)
    dsimp only at q2 ⊢
    by_cases ht : t = i
    · rw [ht, atD_last (by omega)]
    · rw [atD_append_left (by omega)]; exact a4 t q1 (by omega)
  · exact WP.ret ⟨rfl, rfl, by dsimp only; omega, fun i hi => a4 i hi.1 (by have := hi.2; omega)⟩
end
/-- Where a jump goes. -/
theorem jump_in26 {n i par : Int} {f : AFunc} (hf : WfF n i par f) {k : Int} (hk : inN k f.Code.length) : ((atD f.Code k).Op = 20 → inN (atD f.Code k).A f.Code.length) ∧ ((atD f.Code k).Op = 21 → inN (atD f.Code k).B f.Code.length) := by
  have hI := hf.at_ hk
  generalize atD f.Code k = x at *
  constructor
  · intro h
    cases hI <;> first | assumption | (simp at h; done) | (exfalso; dsimp only at h; omega)
  · intro h
    cases hI <;> first | assumption | (simp at h; done) | (exfalso; dsimp only at h; omega)
def formB10 (x : AInstr) (q : Bool × Bool × Bool × Bool) : Prop := (q.1 = false → x.A = 0) ∧ (q.2.1 = false → x.B = 0) ∧ (q.2.2.1 = false → x.C = 0) ∧ (q.2.2.2 = false → x.Imm = 0)
/-- What is checked of an instruction of a target. -/
structure InsP (t : ATarget) (f : AFrame) (z : AInstr) : Prop where
  op : 0 ≤ z.Op ∧ z.Op < 25 ∧ z.Op ≠ 18 ∧ z.Op ≠ 19
  form : WP (r10_Operands z.Op) (formB10 z)
  named : WP (r10_named t z) (· = true)
  size : z.Op = 15 ∨ z.Op = 16 ∨ z.Op = 17 → sizeB z.C = true
  rd : z.Op = 15 ∨ z.Op = 17 → 0 ≤ z.B ∧ 0 ≤ z.C ∧ z.B + z.C ≤ f.Size + 16 * f.Params
  wr : z.Op = 16 ∨ z.Op = 17 → 0 ≤ z.A ∧ 0 ≤ z.C ∧ z.A + z.C ≤ f.Size
  j1 : z.Op = 20 → inN z.A f.Code.length
  j2 : z.Op = 21 → inN z.B f.Code.length
  call : z.Op = 22 → inN z.A t.Frames.length ∧ 16 * (atD t.Frames z.A).Params ≤ f.Size
section
variable {p : AProgram} {i al : Int} {l : List ALayout} {t : ATarget}
theorem ins_ok (hp : WfP p) (hi : inN i p.Funcs.length) (h : ShapeP p i al (atD l i)) (hL : LowP p al l t) {k : Int} (hk : inN k (atD p.Funcs i).Code.length) : InsP t (atD t.Frames i) (lowI (atD p.Funcs i) (atD l i) (atD (atD p.Funcs i).Code k)) := by
  have hf := hp.func i hi.1 hi.2
  have hI := hf.at_ hk
  obtain ⟨jj1, jj2⟩ := jump_in26 hf hk
  have hpar := hp.par _ (atD_mem hi)
  have hA := argsN_R hp hi (l := (atD p.Funcs i).Code) fun x hx => hx
  have hneed := hA.2.2.1 _ (atD_mem hk)
  have hcall : (atD (atD p.Funcs i).Code k).Op = 22 → (atD t.Frames (atD (atD p.Funcs i).Code k).A).Params = (atD p.Funcs (atD (atD p.Funcs i).Code k).A).Params := fun h22 => by
    have := (hI.need hp hi.1).2.2.2 h22
    rw [hL.fr _ ⟨by have := hi.1; omega, this.2⟩]
    rfl
  have hfr := hL.fr i hi
  have hlen := hL.len
  rw [hfr]
  have hcl : (lowF (atD p.Funcs i) (atD l i)).Code.length = (atD p.Funcs i).Code.length := List.length_map ..
  obtain ⟨s1, s2, s3⟩ := h.sz
  have sa := h.args
  have soff := h.off
  have hrs := hf.rightS
  have hps : (lowF (atD p.Funcs i) (atD l i)).Size = (atD l i).Size := rfl
  have hpp : (lowF (atD p.Funcs i) (atD l i)).Params = (atD p.Funcs i).Params := rfl
  have hsz : ∀ s, inN s (atD p.Funcs i).Slots.length → sizeB (atD (atD p.Funcs i).Slots s).Size = true ∧ 0 ≤ (atD (atD p.Funcs i).Slots s).Size ∧ 0 ≤ atD (atD l i).Off s ∧ atD (atD l i).Off s + (atD (atD p.Funcs i).Slots s).Size ≤ (atD l i).Size := fun s hs => by
    have h1 := (hrs _ (atD_mem hs)).1
    obtain ⟨o1, o2, o3⟩ := soff s hs
    exact ⟨by simp [sizeB, h1], by omega, by omega, o3⟩
  have hi0 := hi.1
  clear hfr hL hrs soff
  generalize atD p.Funcs i = f at *
  generalize atD l i = y at *
  generalize atD f.Code k = x at *
  generalize lowF f y = g at *
  cases hI with
  | const a w h1 h2 => obtain ⟨b1, b2⟩ := h1; exact ⟨by simp [lowI], by simp [lowI, r10_Operands, r10_memory, r05_Operands, formB10, WP.join_iff26, WP.bif_iff, WP.ret_iff, WP.call_iff], by simp [lowI, r10_named, r10_within, WP.join_iff26, WP.bif_iff, WP.ret_iff, WP.call_iff]; omega, by simp [lowI], by simp [lowI], by simp [lowI], by simp [lowI], by simp [lowI], by simp [lowI]⟩
  | copy o a b h1 h2 h3 => obtain ⟨b1, b2⟩ := h2; obtain ⟨b3, b4⟩ := h3; rcases h1 with rfl | rfl <;> exact ⟨by simp [lowI], by simp [lowI, r10_Operands, r10_memory, r05_Operands, formB10, WP.join_iff26, WP.bif_iff, WP.ret_iff, WP.call_iff], by simp [lowI, r10_named, r10_within, WP.join_iff26, WP.bif_iff, WP.ret_iff, WP.call_iff]; omega, by simp [lowI], by simp [lowI], by simp [lowI], by simp [lowI], by simp [lowI], by simp [lowI]⟩
  | arith o a b c h1 h2 h3 h4 h5 =>
    obtain ⟨b1, b2⟩ := h3; obtain ⟨b3, b4⟩ := h4; obtain ⟨b5, b6⟩ := h5
    have : o = 2 ∨ o = 3 ∨ o = 4 ∨ o = 5 ∨ o = 6 ∨ o = 7 ∨ o = 8 ∨ o = 9 ∨ o = 10 ∨ o = 11 := by omega
    rcases this with rfl | rfl | rfl | rfl | rfl | rfl | rfl | rfl | rfl | rfl <;> exact ⟨by simp [lowI], by simp [lowI, r10_Operands, r10_memory, r05_Operands, formB10, WP.join_iff26, WP.bif_iff, WP.ret_iff, WP.call_iff], by simp [lowI, r10_named, r10_within, WP.join_iff26, WP.bif_iff, WP.ret_iff, WP.call_iff]; omega, by simp [lowI], by simp [lowI], by simp [lowI], by simp [lowI], by simp [lowI], by simp [lowI]⟩
  | io o a h1 h2 => obtain ⟨b1, b2⟩ := h2; rcases h1 with rfl | rfl <;> exact ⟨by simp [lowI], by simp [lowI, r10_Operands, r10_memory, r05_Operands, formB10, WP.join_iff26, WP.bif_iff, WP.ret_iff, WP.call_iff], by simp [lowI, r10_named, r10_within, WP.join_iff26, WP.bif_iff, WP.ret_iff, WP.call_iff]; omega, by simp [lowI], by simp [lowI], by simp [lowI], by simp [lowI], by simp [lowI], by simp [lowI]⟩
  | load a s h1 h2 =>
    obtain ⟨b1, b2⟩ := h1
    obtain ⟨z1, z2, z3, z4⟩ := hsz s h2
    exact ⟨by simp [lowI], by simp [lowI, r10_Operands, r10_memory, formB10, WP.bif_iff, WP.ret_iff, WP.call_iff], by simp [lowI, r10_named, r10_within, WP.join_iff26, WP.bif_iff, WP.ret_iff, WP.call_iff]; omega, fun _ => z1, fun _ => ⟨z3, z2, by simp [lowI]; omega⟩, by simp [lowI], by simp [lowI], by simp [lowI], by simp [lowI]⟩
  | store s a h1 h2 =>
    obtain ⟨b1, b2⟩ := h2
    obtain ⟨z1, z2, z3, z4⟩ := hsz s h1
    exact ⟨by simp [lowI], by simp [lowI, r10_Operands, r10_memory, formB10, WP.bif_iff, WP.ret_iff, WP.call_iff], by simp [lowI, r10_named, r10_within, WP.join_iff26, WP.bif_iff, WP.ret_iff, WP.call_iff]; omega, fun _ => z1, by simp [lowI], fun _ => ⟨z3, z2, by simp [lowI]; omega⟩, by simp [lowI], by simp [lowI], by simp [lowI]⟩
  | move s u h1 h2 h3 =>
    obtain ⟨z1, z2, z3, z4⟩ := hsz s h1
    obtain ⟨w1, w2, w3, w4⟩ := hsz u h2
    exact ⟨by simp [lowI], by simp [lowI, r10_Operands, r10_memory, formB10, WP.bif_iff, WP.ret_iff, WP.call_iff], by simp [lowI, r10_named, r10_within, WP.join_iff26, WP.bif_iff, WP.ret_iff, WP.call_iff], fun _ => z1, fun _ => ⟨w3, z2, by simp [lowI]; omega⟩, fun _ => ⟨z3, z2, by simp [lowI]; omega⟩, by simp [lowI], by simp [lowI], by simp [lowI]⟩
  | arg a r h1 h2 =>
    obtain ⟨b1, b2⟩ := h1
    obtain ⟨b3, b4⟩ := h2
    simp [needA] at hneed
    exact ⟨by simp [lowI], by simp [lowI, r10_Operands, r10_memory, formB10, WP.bif_iff, WP.ret_iff, WP.call_iff], by simp [lowI, r10_named, r10_within, WP.join_iff26, WP.bif_iff, WP.ret_iff, WP.call_iff]; omega, fun _ => by simp [lowI, sizeB], by simp [lowI], fun _ => ⟨by simp [lowI]; omega, by simp [lowI], by simp [lowI]; omega⟩, by simp [lowI], by simp [lowI], by simp [lowI]⟩
  | param a q h1 h2 =>
    obtain ⟨b1, b2⟩ := h1
    obtain ⟨b3, b4⟩ := h2
    exact ⟨by simp [lowI], by simp [lowI, r10_Operands, r10_memory, formB10, WP.bif_iff, WP.ret_iff, WP.call_iff], by simp [lowI, r10_named, r10_within, WP.join_iff26, WP.bif_iff, WP.ret_iff, WP.call_iff]; omega, fun _ => by simp [lowI, sizeB], fun _ => ⟨by simp [lowI]; omega, by simp [lowI], by simp [lowI]; omega⟩, by simp [lowI], by simp [lowI], by simp [lowI], by simp [lowI]⟩
  | jump u h1 =>
    have q := jj1 rfl
    exact ⟨by simp [lowI], by simp [lowI, r10_Operands, r10_memory, r05_Operands, formB10, WP.join_iff26, WP.bif_iff, WP.ret_iff, WP.call_iff], by simp [lowI, r10_named, r10_within, WP.join_iff26, WP.bif_iff, WP.ret_iff, WP.call_iff], by simp [lowI], by simp [lowI], by simp [lowI], fun _ => by rw [hcl]; exact q, by simp [lowI], by simp [lowI]⟩
  | branch a u h1 h2 =>
    have q := jj2 rfl
    obtain ⟨b1, b2⟩ := h1
    exact ⟨by simp [lowI], by simp [lowI, r10_Operands, r10_memory, r05_Operands, formB10, WP.join_iff26, WP.bif_iff, WP.ret_iff, WP.call_iff], by simp [lowI, r10_named, r10_within, WP.join_iff26, WP.bif_iff, WP.ret_iff, WP.call_iff]; omega, by simp [lowI], by simp [lowI], by simp [lowI], by simp [lowI], fun _ => by rw [hcl]; exact q, by simp [lowI]⟩
  | call u h1 h2 =>
    have q := hcall rfl
    simp [needA] at hneed
    dsimp only at q
    exact ⟨by simp [lowI], by simp [lowI, r10_Operands, r10_memory, r05_Operands, formB10, WP.join_iff26, WP.bif_iff, WP.ret_iff, WP.call_iff], by simp [lowI, r10_named, r10_within, WP.join_iff26, WP.bif_iff, WP.ret_iff, WP.call_iff]; omega, by simp [lowI], by simp [lowI], by simp [lowI], by simp [lowI], by simp [lowI], fun _ => ⟨⟨by simp [lowI]; omega, by simp [lowI]; omega⟩, by show 16 * (atD t.Frames u).Params ≤ _; rw [q]; omega⟩⟩
  | ret => exact ⟨by simp [lowI], by simp [lowI, r10_Operands, r10_memory, r05_Operands, formB10, WP.join_iff26, WP.bif_iff, WP.ret_iff, WP.call_iff], by simp [lowI, r10_named, r10_within, WP.join_iff26, WP.bif_iff, WP.ret_iff, WP.call_iff], by simp [lowI], by simp [lowI], by simp [lowI], by simp [lowI], by simp [lowI], by simp [lowI]⟩
  | trap w h1 => exact ⟨by simp [lowI], by simp [lowI, r10_Operands, r10_memory, r05_Operands, formB10, WP.join_iff26, WP.bif_iff, WP.ret_iff, WP.call_iff], by simp [lowI, r10_named, r10_within, WP.join_iff26, WP.bif_iff, WP.ret_iff, WP.call_iff], by simp [lowI], by simp [lowI], by simp [lowI], by simp [lowI], by simp [lowI], by simp [lowI]⟩
end
theorem memory10_sp (o : Int) : WP (r10_memory o) (· = decide (o = 15 ∨ o = 16 ∨ o = 17)) := by
  unfold r10_memory
  refine WP.bif (fun wh => ?_) (fun wh => ?_) <;> (try simp only [wpH, ne_eq] at wh)
  · exact WP.ret (by simp [wh])
  · have h := wh
    refine WP.bif (fun wh => ?_) (fun wh => ?_) <;> (try simp only [wpH, ne_eq] at wh)
    · exact WP.ret (by simp [wh])
    · exact WP.ret (by simp [h, wh])
/-- A frame of a right shape whose instructions are right. -/
structure FrP (t : ATarget) (f : AFrame) : Prop where
  par : 0 ≤ f.Params ∧ f.Params ≤ 3
  sz : 0 ≤ f.Size ∧ f.Size ≤ 3000 ∧ f.Size % t.Align = 0
  len : 1 ≤ f.Code.length ∧ f.Code.length ≤ 800
  last : (atD f.Code ((f.Code.length : Int) - 1)).Op = 23 ∨ (atD f.Code ((f.Code.length : Int) - 1)).Op = 24
  ins : ∀ k, inN k f.Code.length → InsP t f (atD f.Code k)
structure TgtP (t : ATarget) : Prop where
  al : powB t.Align = true ∧ 16 ≤ t.Align
  len : 1 ≤ t.Frames.length ∧ t.Frames.length ≤ 80
  entry : (atD t.Frames 0).Params = 0
  fr : ∀ i, inN i t.Frames.length → FrP t (atD t.Frames i)
section
variable {t : ATarget}
theorem shape10_sp (ht : TgtP t) {i : Int} (hi : inN i t.Frames.length) : WP (r10_shape t (atD t.Frames i)) (· = true) := by
  have hF := ht.fr i hi
  obtain ⟨p1, p2⟩ := hF.par
  obtain ⟨z1, z2, z3⟩ := hF.sz
  have ha := ht.al.2
  unfold r10_shape
  refine WP.call (power_sp _) ?_
  rintro _ rfl
  refine WP.bif (fun _ => ?_) (fun wh => by rw [ht.al.1] at wh; cases wh)
  refine WP.bif (fun _ => ?_) (fun wh => by exfalso; rw [decide_eq_false_iff_not] at wh; omega)
  refine WP.bif (fun _ => ?_) (fun wh => by exfalso; rw [decide_eq_false_iff_not] at wh; omega)
  refine WP.bif (fun _ => ?_) (fun wh => by exfalso; rw [decide_eq_false_iff_not] at wh; omega)
  refine WP.bif (fun _ => ?_) (fun wh => by exfalso; rw [decide_eq_false_iff_not] at wh; omega)
  refine WP.chk ⟨by omega, by omega⟩ fun _ => ?_
  refine WP.ret ?_
  first | exact decide_eq_true z3 | (rw [Int.tmod_eq_emod_of_nonneg (by omega)]; exact decide_eq_true z3)
theorem checkInstr10_sp (ht : TgtP t) {i k : Int} (hi : inN i t.Frames.length) (hk : inN k (atD t.Frames i).Code.length) : WP (r10_CheckInstr t i k) (· = 0) := by
  have hF := ht.fr i hi
  have hI := hF.ins k hk
  obtain ⟨pp1, pp2⟩ := hF.par
  obtain ⟨z1, z2, z3⟩ := hF.sz
  have hsh := shape10_sp ht hi
  unfold r10_CheckInstr
  refine WP.call (within10_sp _ _) ?_
  rintro _ rfl
  refine WP.bif (fun wh => by exfalso; obtain ⟨q1, q2⟩ := hi; simp at wh; omega) fun _ => ?_
  refine WP.chk hi fun _ => ?_
  refine WP.call (within10_sp _ _) ?_
  rintro _ rfl
  refine WP.bif (fun wh => by exfalso; obtain ⟨q1, q2⟩ := hk; simp at wh; omega) fun _ => ?_
  refine WP.chk hi fun _ => ?_
  refine WP.call hsh ?_
  rintro _ rfl
  refine WP.bif (fun wh => by cases wh) fun _ => ?_
  refine WP.chk hi fun _ => ?_
  refine WP.chk hk fun _ => ?_
  clear hsh hF
  generalize atD t.Frames i = f at *
  generalize atD f.Code k = x at *
  obtain ⟨o1, o2, o3, o4⟩ := hI.op
  refine WP.call (within10_sp _ _) ?_
  rintro _ rfl
  refine WP.bif (fun wh => by exfalso; simp at wh; omega) fun _ => ?_
  refine WP.bif (fun wh => by exfalso; rw [decide_eq_true_eq] at wh; exact o3 wh) fun _ => ?_
  refine WP.bif (fun wh => by exfalso; rw [decide_eq_true_eq] at wh; exact o4 wh) fun _ => ?_
  refine WP.call hI.form fun q ⟨e1, e2, e3, e4⟩ => ?_
  refine WP.join (fun b => b = false) ?_ ?_
  · rintro _ rfl
    refine WP.bif (fun wh => by cases wh) fun _ => ?_
    refine WP.call hI.named ?_
    rintro _ rfl
    refine WP.bif (fun wh => by cases wh) fun _ => ?_
    refine WP.join (fun _ => True) ?_ ?_
    · intro _ _
      refine WP.join (fun _ => True) ?_ ?_
      · intro _ _
        refine WP.join (fun _ => True) ?_ ?_
        · intro _ _
          refine WP.bif (fun wh => ?_) (fun wh => ?_) <;> (try simp only [wpH, ne_eq] at wh)
          · obtain ⟨q1, q2⟩ := hI.j1 wh
            refine WP.call (within10_sp _ _) ?_
            rintro _ rfl
            refine WP.bif (fun wh => by exfalso; simp at wh; omega) fun _ => ?_
            exact WP.bif (fun wh => by exfalso; simp at wh; omega) fun _ => WP.ret rfl
          · refine WP.bif (fun wh => ?_) (fun _ => WP.ret rfl) <;> (try simp only [wpH, ne_eq] at wh)
            obtain ⟨q1, q2⟩ := hI.j2 wh
            refine WP.call (within10_sp _ _) ?_
            rintro _ rfl
            exact WP.bif (fun wh => by exfalso; simp at wh; omega) fun _ => WP.ret rfl
        · intro k5 hk5
          unfold r10_Writes
          refine WP.call (R := fun r => r.2 = false ∨ r = (⟨x.A, x.C⟩, true) ∧ (x.Op = 16 ∨ x.Op = 17)) ?_ ?_
          · refine WP.bif (fun wh => ?_) (fun wh => ?_) <;> (try simp only [wpH, ne_eq] at wh)
            · exact WP.ret (.inr ⟨rfl, .inl wh⟩)
            · refine WP.bif (fun wh => ?_) (fun wh => ?_) <;> (try simp only [wpH, ne_eq] at wh)
              · exact WP.ret (.inr ⟨rfl, .inr wh⟩)
              · exact WP.ret (.inl rfl)
          · rintro r (hr | ⟨hr, ho⟩)
            · rw [hr]
              exact WP.bif (fun wh => by cases wh) fun _ => hk5 _ trivial
            · rw [hr]
              obtain ⟨w1, w2, w3⟩ := hI.wr ho
              refine WP.bif (fun _ => ?_) fun wh => by cases wh
              refine WP.call (rinside_sp _ _ (by dsimp only; omega) (by dsimp only; omega) (by dsimp only; omega)) ?_
              rintro _ rfl
              exact WP.bif (fun wh => by exfalso; simp at wh; omega) fun _ => hk5 _ trivial
      · intro k4 hk4
        unfold r10_Reads
        refine WP.call (R := fun r => r.2 = false ∨ r = (⟨x.B, x.C⟩, true) ∧ (x.Op = 15 ∨ x.Op = 17)) ?_ ?_
        · refine WP.bif (fun wh => ?_) (fun wh => ?_) <;> (try simp only [wpH, ne_eq] at wh)
          · exact WP.ret (.inr ⟨rfl, .inl wh⟩)
          · refine WP.bif (fun wh => ?_) (fun wh => ?_) <;> (try simp only [wpH, ne_eq] at wh)
            · exact WP.ret (.inr ⟨rfl, .inr wh⟩)
            · exact WP.ret (.inl rfl)
        · rintro r (hr | ⟨hr, ho⟩)
          · rw [hr]
            exact WP.bif (fun wh => by cases wh) fun _ => hk4 _ trivial
          · rw [hr]
            obtain ⟨w1, w2, w3⟩ := hI.rd ho
            refine WP.bif (fun _ => ?_) fun wh => by cases wh
            refine WP.chk ⟨by omega, by omega⟩ fun _ => ?_
            refine WP.chk ⟨by omega, by omega⟩ fun _ => ?_
            refine WP.call (rinside_sp _ _ (by dsimp only; omega) (by dsimp only; omega) (by dsimp only; omega)) ?_
            rintro _ rfl
            exact WP.bif (fun wh => by exfalso; simp at wh; omega) fun _ => hk4 _ trivial
    · intro k3 hk3
      refine WP.call (memory10_sp _) ?_
      rintro _ rfl
      refine WP.bif (fun wh => ?_) (fun _ => hk3 _ trivial)
      rw [decide_eq_true_eq] at wh
      refine WP.call (size_sp _) ?_
      rintro _ rfl
      exact WP.bif (fun wh2 => by rw [hI.size wh] at wh2; cases wh2) fun _ => hk3 _ trivial
  · intro k2 hk2
    obtain ⟨qa, qb, qc, qd⟩ := q
    dsimp only at e1 e2 e3 e4 ⊢
    have hf := hk2 _ rfl
    cases qa <;> cases qb <;> cases qc <;> cases qd <;> simp_all [WP.bif_iff]
theorem terminator10_sp (o : Int) (h : o = 23 ∨ o = 24) : WP (r05_Terminator o) (· = true) := by
  unfold r05_Terminator
  rcases h with rfl | rfl <;> simp [WP.bif_iff, WP.ret_iff]
theorem checkFrame10_sp (ht : TgtP t) {i : Int} (hi : inN i t.Frames.length) : WP (r10_CheckFrame t i) (· = 0) := by
  have hF := ht.fr i hi
  have hc := hF.len
  have hci := fun k hk => checkInstr10_sp ht hi (k := k) hk
  have hsh := shape10_sp ht hi
  unfold r10_CheckFrame
  refine WP.call (within10_sp _ _) ?_
  rintro _ rfl
  refine WP.bif (fun wh => by exfalso; obtain ⟨q1, q2⟩ := hi; simp at wh; omega) fun _ => ?_
  refine WP.chk hi fun _ => ?_
  refine WP.call hsh ?_
  rintro _ rfl
  refine WP.bif (fun wh => by cases wh) fun _ => ?_
  refine WP.chk hi fun _ => ?_
  have hlast := hF.last
  clear hF hsh
  generalize atD t.Frames i = f at *
  refine WP.bif (fun wh => by exfalso; rw [decide_eq_true_eq] at wh; omega) fun _ => ?_
  refine WP.loop (fun j => 0 ≤ j ∧ j ≤ f.Code.length) (fun j => f.Code.length - j.toNat) ⟨by omega, by omega⟩ ?_
  rintro again k ⟨a1, a2⟩ ih
  refine WP.bif (fun wh => ?_) (fun wh => ?_) <;> (try simp only [wpH, ne_eq] at wh)
  · refine WP.call (hci k ⟨a1, wh⟩) ?_
    rintro _ rfl
    refine WP.bif (fun wh => by simp at wh) fun _ => ?_
    refine WP.chk ⟨by omega, by omega⟩ fun _ => ?_
    exact ih _ ⟨by omega, by omega⟩ (by omega)
  · refine WP.bif (fun wh => by exfalso; rw [decide_eq_true_eq] at wh; omega) fun _ => ?_
    refine WP.chk ⟨by omega, by omega⟩ fun _ => ?_
    refine WP.chk ⟨by omega, by omega⟩ fun _ => ?_
    refine WP.call (terminator10_sp _ hlast) ?_
    rintro _ rfl
    exact WP.bif (fun wh => by cases wh) fun _ => WP.ret rfl
theorem calls10_sp (ht : TgtP t) {i : Int} (hi : inN i t.Frames.length) : WP (r10_calls t (atD t.Frames i)) (· = true) := by
  have hF := ht.fr i hi
  have hc := hF.len
  have hins := hF.ins
  have hz := hF.sz
  clear hF
  generalize atD t.Frames i = f at *
  unfold r10_calls
  refine WP.loop (fun j => 0 ≤ j ∧ j ≤ f.Code.length) (fun j => f.Code.length - j.toNat) ⟨by omega, by omega⟩ ?_
  rintro again k ⟨a1, a2⟩ ih
  refine WP.bif (fun wh => ?_) (fun _ => WP.ret rfl) <;> (try simp only [wpH, ne_eq] at wh)
  have hkl := wh
  have hgo : WP (M.chk (okI (k + 1)) (again (k + 1))) (· = true) := WP.chk ⟨by omega, by omega⟩ fun _ => ih _ ⟨by omega, by omega⟩ (by omega)
  refine WP.chk ⟨a1, hkl⟩ fun _ => ?_
  refine WP.bif (fun wh => ?_) (fun _ => hgo) <;> (try simp only [wpH, ne_eq] at wh)
  obtain ⟨q1, q2⟩ := (hins k ⟨a1, hkl⟩).call wh
  have hq := (ht.fr _ q1).par
  refine WP.chk ⟨a1, hkl⟩ fun _ => ?_
  refine WP.chk q1 fun _ => ?_
  refine WP.chk ⟨by omega, by omega⟩ fun _ => ?_
  exact WP.bif (fun wh => by exfalso; rw [decide_eq_true_eq] at wh; omega) fun _ => hgo
theorem check10_sp (ht : TgtP t) : WP (r10_Check t) (· = 0) := by
  have hl := ht.len
  have he := ht.entry
  have ha := ht.al
  unfold r10_Check
  refine WP.bif (fun wh => by exfalso; rw [decide_eq_true_eq] at wh; omega) fun _ => ?_
  refine WP.bif (fun wh => by exfalso; rw [decide_eq_true_eq] at wh; omega) fun _ => ?_
  refine WP.call (power_sp _) ?_
  rintro _ rfl
  refine WP.bif (fun wh => by rw [ha.1] at wh; cases wh) fun _ => ?_
  refine WP.bif (fun wh => by exfalso; rw [decide_eq_true_eq] at wh; omega) fun _ => ?_
  refine WP.chk ⟨by omega, by omega⟩ fun _ => ?_
  refine WP.bif (fun wh => by exfalso; rw [Bool.not_eq_true', decide_eq_false_iff_not] at wh; exact wh he) fun _ => ?_
  refine WP.loop (fun j => 0 ≤ j ∧ j ≤ t.Frames.length) (fun j => t.Frames.length - j.toNat) ⟨by omega, by omega⟩ ?_
  rintro again k ⟨a1, a2⟩ ih
  refine WP.bif (fun wh => ?_) (fun wh => ?_) <;> (try simp only [wpH, ne_eq] at wh)
  · refine WP.call (checkFrame10_sp ht ⟨a1, wh⟩) ?_
    rintro _ rfl
    refine WP.bif (fun wh => by simp at wh) fun _ => ?_
    refine WP.chk ⟨by omega, by omega⟩ fun _ => ?_
    exact ih _ ⟨by omega, by omega⟩ (by omega)
  · refine WP.loop (fun j => 0 ≤ j ∧ j ≤ t.Frames.length) (fun j => t.Frames.length - j.toNat) ⟨by omega, by omega⟩ ?_
    rintro again2 k2 ⟨b1, b2⟩ ih2
    refine WP.bif (fun wh => ?_) (fun _ => WP.ret rfl) <;> (try simp only [wpH, ne_eq] at wh)
    refine WP.chk ⟨b1, wh⟩ fun _ => ?_
    refine WP.call (calls10_sp ht ⟨b1, wh⟩) ?_
    rintro _ rfl
    refine WP.bif (fun wh => by cases wh) fun _ => ?_
    refine WP.chk ⟨by omega, by omega⟩ fun _ => ?_
    exact ih2 _ ⟨by omega, by omega⟩ (by omega)
end
theorem low_tgt {p : AProgram} {al : Int} {l : List ALayout} {t : ATarget} (hp : WfP p) (hal : al = alignP p) (hS : ∀ i, inN i p.Funcs.length → ShapeP p i al (atD l i)) (hL : LowP p al l t) : TgtP t := by
  have hpl := hp.len
  have hll := hL.len
  obtain ⟨hp1, hp2, hp3⟩ := alP_pow hp (.inl hal)
  have hR := (alignP_R hp).1
  unfold alR at hR
  refine ⟨⟨by rw [hL.al]; exact hp1, by rw [hL.al, hal]; omega⟩, by omega, ?_, fun i hi => ?_⟩
  · rw [hL.fr 0 ⟨by omega, by omega⟩]
    exact hp.entry
  · rw [hll] at hi
    have hf := hp.func i hi.1 hi.2
    have hc := hf.code
    have hpar := hp.par _ (atD_mem hi)
    have hsh := hS i hi
    have hA := argsN_R hp hi (l := (atD p.Funcs i).Code) fun x hx => hx
    obtain ⟨s1, s2, s3⟩ := hsh.sz
    have sa := hsh.args
    have hins := fun k hk => ins_ok hp hi hsh hL (k := k) hk
    have hcl : (lowF (atD p.Funcs i) (atD l i)).Code.length = (atD p.Funcs i).Code.length := List.length_map ..
    have hat : ∀ k, inN k (atD p.Funcs i).Code.length → atD (lowF (atD p.Funcs i) (atD l i)).Code k = lowI (atD p.Funcs i) (atD l i) (atD (atD p.Funcs i).Code k) := fun k hk => map_at _ hk
    rw [hL.fr i hi] at hins ⊢
    refine ⟨hpar, ⟨by show 0 ≤ (atD l i).Size; omega, s2, by rw [hL.al]; exact s3⟩, by omega, ?_, fun k hk => ?_⟩
    · rw [hcl, hat _ ⟨by omega, by omega⟩]
      have hlo : ∀ x : AInstr, x.Op = 23 ∨ x.Op = 24 → lowI (atD p.Funcs i) (atD l i) x = x := fun x hx => by
        unfold lowI
        rw [if_neg (by omega), if_neg (by omega), if_neg (by omega), if_neg (by omega), if_neg (by omega)]
      rw [hlo _ hf.last]
      exact hf.last
    · rw [hcl] at hk
      rw [hat k hk]
      exact hins k hk
theorem pl_LowerGivesRightTargets (cs : List Int) (h : isU8 cs) : WP (law26_LowerGivesRightTargets cs) (· = true) := by
  unfold law26_LowerGivesRightTargets
  refine WP.call awake26_sp ?_
  rintro _ rfl
  refine WP.bif (fun wh => by cases wh) fun _ => ?_
  refine WP.call (scene26_sp cs h) fun x2 ⟨hp, hal, hl, hS, _⟩ => ?_
  have hpl := hp.len
  refine WP.call (target_sp hp hal hl hS) fun x3 ⟨e, hL⟩ => ?_
  rw [e]
  refine WP.bif (fun wh => by simp at wh) fun _ => ?_
  refine WP.call (check10_sp (low_tgt hp hal hS hL)) ?_
  rintro _ rfl
  refine WP.bif (fun wh => by simp at wh) fun _ => ?_
  have hll := hL.len
  refine WP.bif (fun wh => by exfalso; simp [hll] at wh) fun _ => ?_
  refine WP.bif (fun wh => by exfalso; rw [Bool.not_eq_true', decide_eq_false_iff_not] at wh; exact wh hL.al) fun _ => ?_
  refine WP.loop (fun j => 0 ≤ j ∧ j ≤ x2.1.Funcs.length) (fun j => x2.1.Funcs.length - j.toNat) ⟨by omega, by omega⟩ ?_
  rintro again i ⟨a1, a2⟩ ih
  refine WP.bif (fun wh => ?_) (fun _ => WP.ret rfl) <;> (try simp only [wpH, ne_eq] at wh)
  have hi : inN i x2.1.Funcs.length := ⟨a1, by omega⟩
  refine WP.chk ⟨a1, wh⟩ fun _ => ?_
  refine WP.chk hi fun _ => ?_
  rw [hL.fr i hi]
  have hcl : (lowF (atD x2.1.Funcs i) (atD x2.2.2.1 i)).Code.length = (atD x2.1.Funcs i).Code.length := List.length_map ..
  refine WP.bif (fun wh => by exfalso; simp [hcl] at wh) fun _ => ?_
  refine WP.chk ⟨a1, wh⟩ fun _ => ?_
  refine WP.chk ⟨a1, by omega⟩ fun _ => ?_
  refine WP.bif (fun wh => by exfalso; simp [lowF] at wh) fun _ => ?_
  refine WP.chk ⟨by omega, by omega⟩ fun _ => ?_
  exact ih _ ⟨by omega, by omega⟩ (by omega)
end Go.Proofs.YtjnfnochdefpjaaGreat.Q
