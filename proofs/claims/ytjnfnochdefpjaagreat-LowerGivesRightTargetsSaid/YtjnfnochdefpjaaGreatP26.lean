/- Lowering: layouts of a right shape, instructions, frames; the law LowerFrame. -/
import Derived.Test.YtjnfnochdefpjaaGreatP32
set_option linter.unusedVariables false
set_option linter.unusedSimpArgs false
namespace Go.Proofs.YtjnfnochdefpjaaGreat.Q
theorem rinsideM_sp (a : AInterval) (m : Int) : WP (r03_Inside a m) fun b => (b = true → rgtP a ∧ a.Off + a.Size ≤ m) := by
  unfold r03_Inside
  refine WP.call (rrightG_sp a) fun b hb => ?_
  refine WP.bif (fun wh => ?_) (fun wh => WP.ret fun q => by cases q)
  have h := hb.1 wh
  have h' := h
  unfold rgtP at h'
  refine WP.chk ⟨by omega, by omega⟩ fun _ => ?_
  exact WP.ret fun q => ⟨h, by simpa using q⟩
/-- A layout of a right shape. -/
structure ShapeP (p : AProgram) (i al : Int) (y : ALayout) : Prop where
  args : y.Args = 16 * argsN p (atD p.Funcs i).Code
  len : y.Off.length = (atD p.Funcs i).Slots.length
  off : ∀ k, inN k (atD p.Funcs i).Slots.length → y.Args ≤ atD y.Off k ∧ atD y.Off k % (atD (atD p.Funcs i).Slots k).Align = 0 ∧ atD y.Off k + (atD (atD p.Funcs i).Slots k).Size ≤ y.Size
  sz : y.Args ≤ y.Size ∧ y.Size ≤ 3000 ∧ y.Size % al = 0
  top : y.Size ≤ upZ (offL (16 * argsN p (atD p.Funcs i).Code) (atD p.Funcs i).Slots).2 al
section
variable {p : AProgram} {i al : Int}
theorem base_shape (hp : WfP p) (hi : inN i p.Funcs.length) (hal : al = alignP p) : WP (r24_Baseline p i al) fun r => r.2 = 0 ∧ ShapeP p i al r.1 ∧ r.1.Size ≤ 3000 ∧ r.1.Size = upZ (offL (16 * argsN p (atD p.Funcs i).Code) (atD p.Funcs i).Slots).2 al := by
  have hsl := hp.slotsR (atD_mem hi)
  have hA := argsN_R hp hi (l := (atD p.Funcs i).Code) fun x hx => hx
  obtain ⟨hp1, hp2, hp3⟩ := alP_pow hp (.inl hal)
  refine (rbaseline_sp hi (rargs24_sp p i hp hi) (by omega) (by omega) (fun s hs => (hsl.2 s hs).okS) (by omega) hp1).mono fun r hr => ?_
  obtain ⟨e1, e2, e3, e4⟩ := baseR_small (args := 16 * argsN p (atD p.Funcs i).Code) (al := al) (l := (atD p.Funcs i).Slots) (by omega) (by omega) hsl.1 hsl.2 hp1 (by omega)
  have hle := offL_len (16 * argsN p (atD p.Funcs i).Code) (atD p.Funcs i).Slots
  have hzm := upZ_mod (offL (16 * argsN p (atD p.Funcs i).Code) (atD p.Funcs i).Slots).2 al
  have hzl := upZ_le (n := (offL (16 * argsN p (atD p.Funcs i).Code) (atD p.Funcs i).Slots).2) hp3
  have hof := fun k hk => off_facts (e := 16 * argsN p (atD p.Funcs i).Code) (fun s hs => (hsl.2 s hs).okS) k (hk : inN k (atD p.Funcs i).Slots.length)
  rw [e1] at hr
  subst hr
  refine ⟨rfl, ⟨rfl, hle, fun k hk => ?_, ⟨by dsimp only; omega, by dsimp only; omega, hzm⟩, Int.le_refl _⟩, e4, rfl⟩
  obtain ⟨g1, g2, g3, g4, g5, _⟩ := hof k hk
  exact ⟨g1, g5, by dsimp only; omega⟩
theorem rshape_sp (hp : WfP p) (hi : inN i p.Funcs.length) (hal : al = alignP p) (y : ALayout) : WP (r25_Shape p i al y) fun e => e = 0 → ShapeP p i al y := by
  have hsl := hp.slotsR (atD_mem hi)
  have hA := argsN_R hp hi (l := (atD p.Funcs i).Code) fun x hx => hx
  obtain ⟨hp1, hp2, hp3⟩ := alP_pow hp (.inl hal)
  unfold r25_Shape
  refine WP.call (base_shape hp hi hal) fun x1 ⟨b1, _, b3, b4⟩ => ?_
  rw [b1]
  refine WP.bif (fun wh => by simp at wh) fun _ => ?_
  refine WP.chk hi fun _ => ?_
  refine WP.call (rargs24_sp p i hp hi) ?_
  rintro _ rfl
  refine WP.bif (fun _ => WP.ret fun q => by simp at q) fun wh => ?_
  rw [Bool.not_eq_false', decide_eq_true_eq] at wh
  have hargs := wh
  refine WP.bif (fun _ => WP.ret fun q => by simp at q) fun wh => ?_
  rw [Bool.not_eq_false', decide_eq_true_eq] at wh
  have hlen : y.Off.length = (atD p.Funcs i).Slots.length := by omega
  refine WP.loop (fun j => (0 ≤ j ∧ j ≤ (atD p.Funcs i).Slots.length) ∧ ∀ k, 0 ≤ k → k < j → y.Args ≤ atD y.Off k ∧ atD y.Off k % (atD (atD p.Funcs i).Slots k).Align = 0 ∧ atD y.Off k + (atD (atD p.Funcs i).Slots k).Size ≤ y.Size) (fun j => (atD p.Funcs i).Slots.length - j.toNat) ⟨⟨by omega, by omega⟩, fun k q1 q2 => by exfalso; omega⟩ ?_
  rintro again k ⟨⟨a1, a2⟩, a3⟩ ih
  refine WP.bif (fun wh => ?_) (fun wh => ?_) <;> (try simp only [wpH, ne_eq] at wh)
  · have hkl := wh
    have hr := hsl.2 _ (atD_mem (l := (atD p.Funcs i).Slots) ⟨a1, wh⟩)
    have hal0 : 1 ≤ (atD (atD p.Funcs i).Slots k).Align := by have := hr.2; omega
    refine WP.chk ⟨by omega, by omega⟩ fun _ => ?_
    refine WP.bif (fun _ => WP.ret fun q => by simp at q) fun wh => ?_
    rw [decide_eq_false_iff_not] at wh
    have hge : y.Args ≤ atD y.Off k := by omega
    refine WP.chk ⟨by omega, by omega⟩ fun _ => ?_
    refine WP.chk ⟨by omega, by omega⟩ fun _ => ?_
    refine WP.chk (by omega) fun _ => ?_
    refine WP.bif (fun _ => WP.ret fun q => by simp at q) fun wh => ?_
    rw [Bool.not_eq_false', decide_eq_true_eq, Int.tmod_eq_emod_of_nonneg (by omega)] at wh
    have hm := wh
    refine WP.chk ⟨by omega, by omega⟩ fun _ => ?_
    refine WP.chk ⟨by omega, by omega⟩ fun _ => ?_
    refine WP.call (rinsideM_sp _ _) fun b hb => ?_
    refine WP.bif (fun _ => WP.ret fun q => by simp at q) fun wh => ?_
    have hin := (hb (by simpa using wh)).2
    refine WP.chk ⟨by omega, by omega⟩ fun _ => ?_
    refine ih _ ⟨⟨by omega, by omega⟩, fun t q1 q2 => ?_⟩ (by omega)
    by_cases ht : t = k
    · rw [ht]; exact ⟨hge, hm, hin⟩
    · exact a3 t q1 (by omega)
  · refine WP.chk (by omega) fun _ => ?_
    refine WP.bif (fun _ => WP.ret fun q => by simp at q) fun wh => ?_
    rw [Bool.not_eq_false', decide_eq_true_eq] at wh
    have hm := wh
    refine WP.bif (fun _ => WP.ret fun q => by simp at q) fun wh => ?_
    rw [decide_eq_false_iff_not] at wh
    have h1 := wh
    refine WP.bif (fun _ => WP.ret fun q => by simp at q) fun wh => ?_
    rw [decide_eq_false_iff_not] at wh
    rw [Int.tmod_eq_emod_of_nonneg (by omega)] at hm
    exact WP.ret fun _ => ⟨hargs, hlen, fun k hk => a3 k hk.1 (by have := hk.2; omega), ⟨by omega, by omega, hm⟩, by omega⟩
theorem rclash_sp {f : AFunc} {n par : Int} (hf : WfF n i par f) {l : ALive} (h : Live f l.Out) {y : ALayout} (hl : y.Off.length = f.Slots.length) {k : Int} (hk : inN k f.Code.length) : WP (r25_clash f l y k) fun _ => True := by
  have hI := hf.at_ hk
  have hA := h.ann
  have hol : l.Out.length = f.Code.length := hA.len
  have hset := hA.set k hk
  unfold r25_clash
  obtain ⟨hk1, hk2⟩ := hk
  refine WP.chk ⟨hk1, hk2⟩ fun _ => ?_
  refine WP.call (defines_sp _) ?_
  rintro _ rfl
  refine WP.join (fun _ => remB (atD f.Code k) = true) ?_ ?_
  · intro _ hr
    rw [show (if remB (atD f.Code k) = true then ((atD f.Code k).A, true) else (0, false)) = ((atD f.Code k).A, true) from if_pos hr]
    dsimp only
    obtain ⟨d1, d2⟩ := hI.dfn hr
    have hlen := hset.1.length
    refine WP.loop (fun j => 0 ≤ j ∧ j ≤ (atD l.Out k).length) (fun j => (atD l.Out k).length - j.toNat) ⟨by omega, by omega⟩ ?_
    rintro again t ⟨a1, a2⟩ ih
    refine WP.chk ⟨hk1, by omega⟩ fun _ => ?_
    refine WP.bif (fun wh => ?_) (fun _ => WP.ret trivial) <;> (try simp only [wpH, ne_eq] at wh)
    have htl := wh
    have s2 := hset.2 _ (atD_mem ⟨a1, wh⟩)
    have s1 := (hset.1.rng _ (atD_mem ⟨a1, wh⟩)).1
    refine WP.chk ⟨hk1, by omega⟩ fun _ => ?_
    refine WP.chk ⟨a1, htl⟩ fun _ => ?_
    have hgo : WP (M.chk (okI (t + 1)) (again (t + 1))) fun _ => True := WP.chk ⟨by omega, by omega⟩ fun _ => ih _ ⟨by omega, by omega⟩ (by omega)
    refine WP.bif (fun _ => ?_) (fun _ => hgo)
    refine WP.chk ⟨by omega, by omega⟩ fun _ => ?_
    refine WP.chk ⟨by omega, by omega⟩ fun _ => ?_
    refine WP.chk ⟨by omega, by omega⟩ fun _ => ?_
    refine WP.chk ⟨by omega, by omega⟩ fun _ => ?_
    refine WP.call (roverlapG_sp _ _) fun b _ => ?_
    exact WP.bif (fun _ => WP.ret trivial) (fun _ => hgo)
  · intro k2 hk2
    cases hr : remB (atD f.Code k) with
    | false => exact WP.bif (fun _ => WP.ret trivial) (fun q => by cases q)
    | true =>
      refine WP.bif (fun q => by cases q) (fun _ => ?_)
      refine WP.bif (fun wh => ?_) (fun _ => hk2 _ hr) <;> (try simp only [wpH, ne_eq] at wh)
      obtain ⟨p1, p2⟩ := hI.dfn hr
      obtain ⟨p3, p4⟩ := hI.use (y := (atD f.Code k).B) (by unfold useS; rw [if_pos (.inr wh)]; exact List.mem_cons_self)
      refine WP.chk ⟨by omega, by omega⟩ fun _ => ?_
      refine WP.chk ⟨by omega, by omega⟩ fun _ => ?_
      exact WP.bif (fun _ => WP.ret trivial) (fun _ => hk2 _ hr)
theorem rClash_sp (hp : WfP p) (hi : inN i p.Funcs.length) (hal : al = alignP p) {l : ALive} (h : Live (atD p.Funcs i) l.Out) (y : ALayout) : WP (r25_Clash p i al l y) fun _ => True := by
  have hf := hp.func i hi.1 hi.2
  have hc := hf.code
  unfold r25_Clash
  refine WP.call (rshape_sp hp hi hal y) fun e he => ?_
  refine WP.bif (fun _ => WP.ret trivial) fun wh => ?_
  rw [Bool.not_eq_false', decide_eq_true_eq] at wh
  have hS := he wh
  refine WP.chk hi fun _ => ?_
  refine WP.call (check17_sp hf h) ?_
  rintro _ rfl
  refine WP.bif (fun _ => WP.ret trivial) fun _ => ?_
  refine WP.loop (fun j => 0 ≤ j ∧ j ≤ (atD p.Funcs i).Code.length) (fun j => (atD p.Funcs i).Code.length - j.toNat) ⟨by omega, by omega⟩ ?_
  rintro again k ⟨a1, a2⟩ ih
  refine WP.chk hi fun _ => ?_
  refine WP.bif (fun wh => ?_) (fun _ => WP.ret trivial) <;> (try simp only [wpH, ne_eq] at wh)
  refine WP.chk hi fun _ => ?_
  refine WP.call (rclash_sp hf h hS.len ⟨a1, wh⟩) fun x _ => ?_
  refine WP.bif (fun _ => WP.ret trivial) fun _ => ?_
  refine WP.chk ⟨by omega, by omega⟩ fun _ => ?_
  exact ih _ ⟨by omega, by omega⟩ (by omega)
theorem rcheck25_sp (hp : WfP p) (hi : inN i p.Funcs.length) (hal : al = alignP p) {l : ALive} (h : Live (atD p.Funcs i) l.Out) (y : ALayout) : WP (r25_Check p i al l y) fun e => e = 0 → ShapeP p i al y := by
  have hf := hp.func i hi.1 hi.2
  unfold r25_Check
  refine WP.call (rshape_sp hp hi hal y) fun e he => ?_
  refine WP.bif (fun wh => ?_) fun wh => ?_
  · rw [Bool.not_eq_true', decide_eq_false_iff_not] at wh
    exact WP.ret fun q => (wh q).elim
  rw [Bool.not_eq_false', decide_eq_true_eq] at wh
  have hS := he wh
  refine WP.chk hi fun _ => ?_
  refine WP.call (check17_sp hf h) ?_
  rintro _ rfl
  refine WP.bif (fun _ => WP.ret fun _ => hS) fun _ => ?_
  refine WP.call (rClash_sp hp hi hal h y) fun x _ => ?_
  exact WP.bif (fun _ => WP.ret fun _ => hS) fun _ => WP.ret fun _ => hS
end
/-- An instruction, lowered. -/
def lowI (f : AFunc) (y : ALayout) (x : AInstr) : AInstr := if x.Op = 15 then ⟨15, x.A, atD y.Off x.B, (atD f.Slots x.B).Size, 0⟩ else if x.Op = 16 then ⟨16, atD y.Off x.A, x.B, (atD f.Slots x.A).Size, 0⟩ else if x.Op = 17 then ⟨17, atD y.Off x.A, atD y.Off x.B, (atD f.Slots x.A).Size, 0⟩ else if x.Op = 18 then ⟨16, 16 * x.A, x.B, 16, 0⟩ else if x.Op = 19 then ⟨15, x.A, y.Size + 16 * x.B, 16, 0⟩ else x
theorem trans_sp : WP lower_translations fun _ => True := by
  unfold lower_translations
  simp [WP.chk_iff, WP.ret_iff, okI]
section
variable {n i par : Int} {f : AFunc} {y : ALayout} {J : Int → Prop} {x : AInstr}
/-- One choice of the table. -/
theorem pickI {α : Type} {Q : α → Prop} (k : AInstr → M α) (hl : y.Off.length = f.Slots.length) (hz : 0 ≤ y.Size ∧ y.Size ≤ 3000) (hpar : par ≤ 3) (h : WfI n i par f.Slots J x) (hk : WP (k (lowI f y x)) Q) :
    (x.Op = 0 ∨ x.Op = 1 ∨ x.Op = 2 ∨ x.Op = 3 ∨ x.Op = 4 ∨ x.Op = 5 ∨ x.Op = 6 ∨ x.Op = 7 ∨ x.Op = 8 ∨ x.Op = 9 ∨ x.Op = 10 ∨ x.Op = 11 ∨ x.Op = 12 ∨ x.Op = 13 ∨ x.Op = 14 ∨ x.Op = 20 ∨ x.Op = 21 ∨ x.Op = 22 ∨ x.Op = 23 ∨ x.Op = 24) ∧ WP (M.call (lower_same f y x) k) Q ∨ x.Op = 15 ∧ WP (M.call (lower_translations_1 f y x) k) Q ∨ x.Op = 16 ∧ WP (M.call (lower_translations_2 f y x) k) Q ∨ x.Op = 17 ∧ WP (M.call (lower_translations_3 f y x) k) Q ∨ x.Op = 18 ∧ WP (M.call (lower_translations_4 f y x) k) Q ∨ x.Op = 19 ∧ WP (M.call (lower_translations_5 f y x) k) Q := by
  have same : ∀ x : AInstr, lowI f y x = x → WP (k (lowI f y x)) Q → WP (M.call (lower_same f y x) k) Q := fun x e h => by
    rw [WP.call_iff]
    unfold lower_same
    rw [WP.ret_iff, ← e]
    rw [e]
    rw [e] at h
    exact h
  cases h with
  | const a w h1 h2 => exact .inl ⟨by simp, same _ rfl hk⟩
  | copy o a b h1 h2 h3 => exact .inl ⟨by simp; omega, same _ (by rcases h1 with rfl | rfl <;> rfl) hk⟩
  | arith o a b c h1 h2 h3 h4 h5 =>
    refine .inl ⟨by simp; omega, same _ ?_ hk⟩
    unfold lowI
    dsimp only
    rw [if_neg (show ¬ o = 15 by omega), if_neg (show ¬ o = 16 by omega), if_neg (show ¬ o = 17 by omega), if_neg (show ¬ o = 18 by omega), if_neg (show ¬ o = 19 by omega)]
  | io o a h1 h2 => exact .inl ⟨by simp; omega, same _ (by rcases h1 with rfl | rfl <;> rfl) hk⟩
  | load a s h1 h2 =>
    obtain ⟨b1, b2⟩ := h2
    refine .inr (.inl ⟨rfl, ?_⟩)
    unfold lower_translations_1
    rw [WP.call_iff]
    refine WP.chk ⟨by dsimp only; omega, by dsimp only; omega⟩ fun _ => ?_
    refine WP.chk ⟨by dsimp only; omega, by dsimp only; omega⟩ fun _ => ?_
    exact WP.ret hk
  | store s a h1 h2 =>
    obtain ⟨b1, b2⟩ := h1
    refine .inr (.inr (.inl ⟨rfl, ?_⟩))
    unfold lower_translations_2
    rw [WP.call_iff]
    refine WP.chk ⟨by dsimp only; omega, by dsimp only; omega⟩ fun _ => ?_
    refine WP.chk ⟨by dsimp only; omega, by dsimp only; omega⟩ fun _ => ?_
    exact WP.ret hk
  | move s t h1 h2 h3 =>
    obtain ⟨b1, b2⟩ := h1
    obtain ⟨b3, b4⟩ := h2
    refine .inr (.inr (.inr (.inl ⟨rfl, ?_⟩)))
    unfold lower_translations_3
    rw [WP.call_iff]
    refine WP.chk ⟨by dsimp only; omega, by dsimp only; omega⟩ fun _ => ?_
    refine WP.chk ⟨by dsimp only; omega, by dsimp only; omega⟩ fun _ => ?_
    refine WP.chk ⟨by dsimp only; omega, by dsimp only; omega⟩ fun _ => ?_
    exact WP.ret hk
  | arg a r h1 h2 =>
    obtain ⟨b1, b2⟩ := h1
    refine .inr (.inr (.inr (.inr (.inl ⟨rfl, ?_⟩))))
    unfold lower_translations_4
    rw [WP.call_iff]
    refine WP.chk ⟨by dsimp only; omega, by dsimp only; omega⟩ fun _ => ?_
    exact WP.ret hk
  | param a k h1 h2 =>
    obtain ⟨b1, b2⟩ := h2
    refine .inr (.inr (.inr (.inr (.inr ⟨rfl, ?_⟩))))
    unfold lower_translations_5
    rw [WP.call_iff]
    refine WP.chk ⟨by dsimp only; omega, by dsimp only; omega⟩ fun _ => ?_
    refine WP.chk ⟨by dsimp only; omega, by dsimp only; omega⟩ fun _ => ?_
    exact WP.ret hk
  | jump t h1 => exact .inl ⟨by simp, same _ rfl hk⟩
  | branch a t h1 h2 => exact .inl ⟨by simp, same _ rfl hk⟩
  | call g h1 h2 => exact .inl ⟨by simp, same _ rfl hk⟩
  | ret => exact .inl ⟨by simp, same _ rfl hk⟩
  | trap w h1 => exact .inl ⟨by simp, same _ rfl hk⟩
theorem linstr_sp (hl : y.Off.length = f.Slots.length) (hz : 0 ≤ y.Size ∧ y.Size ≤ 3000) (hpar : par ≤ 3) (h : WfI n i par f.Slots J x) : WP (lower_Instr f y x) (· = lowI f y x) := by
  unfold lower_Instr
  refine WP.call trans_sp fun _ _ => ?_
  have hp := pickI (Q := (· = lowI f y x)) (fun z => M.ret z) hl hz hpar h (WP.ret rfl)
  clear h
  generalize lowI f y x = z at *
  simp only [WP.bif_iff, WP.chk_iff, decide_eq_true_eq, decide_eq_false_iff_not]
  rcases hp with ⟨ho, hw⟩ | ⟨ho, hw⟩ | ⟨ho, hw⟩ | ⟨ho, hw⟩ | ⟨ho, hw⟩ | ⟨ho, hw⟩
  · rcases ho with ho | ho | ho | ho | ho | ho | ho | ho | ho | ho | ho | ho | ho | ho | ho | ho | ho | ho | ho | ho <;> (simp only [ho]; simp; first | exact hw | exact WP.chk True.intro fun _ => hw)
  all_goals (simp only [ho]; simp; exact hw)
end
theorem clone26_sp (l : List AInstr) (hl : l.length ≤ 1000000) : WP (slices_Clone___api_Instr_api_Instr_ l) (· = l) := by
  unfold slices_Clone___api_Instr_api_Instr_
  refine WP.both l (fun h => ?_) ?_ rfl
  · exact WP.ret h.symm
  · refine WP.chk (by simp only [List.length_nil]; omega) fun _ => ?_
    exact WP.ret rfl
def lowF (f : AFunc) (y : ALayout) : AFrame := ⟨f.Params, y.Size, f.Code.map (lowI f y)⟩
section
variable {p : AProgram} {i al : Int} {y : ALayout}
theorem map_at {α β : Type} [Inhabited α] [Inhabited β] (g : α → β) {l : List α} {k : Int} (h : inN k l.length) : atD (l.map g) k = g (atD l k) := by
  obtain ⟨h1, h2⟩ := h
  have h3 : k.toNat < (l.map g).length := by rw [List.length_map]; omega
  have h4 := atD_nat h3
  rw [Int.toNat_of_nonneg h1] at h4
  have h5 := atD_nat (l := l) (i := k.toNat) (by omega)
  rw [Int.toNat_of_nonneg h1] at h5
  rw [h4, List.getElem_map, h5]
theorem lframe_sp (hp : WfP p) (hi : inN i p.Funcs.length) (h : ShapeP p i al y) : WP (lower_Frame p i y) (· = lowF (atD p.Funcs i) y) := by
  have hf := hp.func i hi.1 hi.2
  have hc := hf.code
  have hpar := hp.par _ (atD_mem hi)
  have hA := argsN_R hp hi (l := (atD p.Funcs i).Code) fun x hx => hx
  obtain ⟨s1, s2, s3⟩ := h.sz
  have sa := h.args
  unfold lower_Frame
  refine WP.chk hi fun _ => ?_
  have hlen := h.len
  generalize atD p.Funcs i = f at *
  refine WP.call (clone26_sp f.Code (by omega)) ?_
  intro z hz
  rw [hz]
  clear hz z
  refine WP.call trans_sp fun _ _ => ?_
  refine WP.loop (fun j => (0 ≤ j.1 ∧ j.1 ≤ f.Code.length) ∧ j.2.length = f.Code.length ∧ (∀ t, 0 ≤ t → t < j.1 → atD j.2 t = lowI f y (atD f.Code t)) ∧ ∀ t, j.1 ≤ t → t < f.Code.length → atD j.2 t = atD f.Code t) (fun j => f.Code.length - j.1.toNat) ⟨⟨by simp, by simp⟩, rfl, fun t h1 h2 => by exfalso; dsimp only at h2; omega, fun _ _ _ => rfl⟩ ?_
  rintro again ⟨k, l⟩ ⟨⟨a1, a2⟩, a3, a4, a5⟩ ih
  dsimp only at a1 a2 a3 a4 a5 ih ⊢
  refine WP.bif (fun wh => ?_) (fun wh => ?_) <;> (try simp only [wpH, ne_eq] at wh)
  · have hkl := wh
    refine WP.join (fun j => j = setD l k (lowI f y (atD f.Code k))) ?_ ?_
    · rintro _ rfl
      refine WP.chk ⟨by omega, by omega⟩ fun _ => ?_
      refine ih _ ⟨⟨by dsimp only; omega, by dsimp only; omega⟩, by dsimp only; rw [length_setD, a3], fun t h1 h2 => ?_, fun t h1 h2 => ?_⟩ (by dsimp only; omega)
      · dsimp only at h2 ⊢
        rw [atD_setD ⟨a1, by omega⟩ h1]
        split
        · rename_i ht; rw [ht]
        · exact a4 t h1 (by omega)
      · dsimp only at h1 ⊢
        rw [atD_setD ⟨a1, by omega⟩ (by omega), if_neg (by omega)]
        exact a5 t (by omega) h2
    · intro k1 hk1
      refine WP.chk ⟨a1, by omega⟩ fun _ => ?_
      rw [a5 k (Int.le_refl _) hkl]
      have hW := hf.at_ ⟨a1, hkl⟩
      generalize atD f.Code k = x at *
      have hp := pickI (Q := (· = lowF f y)) (fun z => M.chk ((0 : Int) ≤ k ∧ k < (l.length : Int)) <| k1 (setD l k z)) hlen ⟨by omega, s2⟩ (by omega) hW (WP.chk ⟨a1, by omega⟩ fun _ => hk1 _ rfl)
      clear hW hk1 ih a4 a5
      simp only [WP.bif_iff, WP.chk_iff (p := decide _ = true), decide_eq_true_eq, decide_eq_false_iff_not]
      rcases hp with ⟨ho, hw⟩ | ⟨ho, hw⟩ | ⟨ho, hw⟩ | ⟨ho, hw⟩ | ⟨ho, hw⟩ | ⟨ho, hw⟩
      · rcases ho with ho | ho | ho | ho | ho | ho | ho | ho | ho | ho | ho | ho | ho | ho | ho | ho | ho | ho | ho | ho <;> (simp only [ho]; simp; first | exact hw | exact WP.chk True.intro fun _ => hw)
      all_goals (simp only [ho]; simp; exact hw)
  · refine WP.ret ?_
    have e : l = f.Code.map (lowI f y) := atD_ext (by rw [List.length_map, a3]) fun t ht => by
      obtain ⟨t1, t2⟩ := ht
      rw [a4 t t1 (by omega), map_at _ ⟨t1, by omega⟩]
    rw [e]
    rfl
end
theorem awake26_sp : WP law26_awake (· = true) := by
  unfold law26_awake
  refine WP.call (linstr_sp (n := 1) (i := 0) (par := 0) (J := fun _ => True) rfl ⟨by simp, by simp⟩ (by simp) (.load 1 0 ⟨by simp, by simp⟩ ⟨by simp, by simp⟩)) ?_
  rintro _ rfl
  refine WP.bif (fun _ => WP.ret (by decide)) (fun wh => by exfalso; revert wh; decide)
/-- The scene: a program, its alignment, accepted layouts. -/
theorem scene26_sp (cs : List Int) (h : isU8 cs) : WP (law26_scene cs false) fun r => WfP r.1 ∧ r.2.1 = alignP r.1 ∧ r.2.2.1.length = r.1.Funcs.length ∧ (∀ i, inN i r.1.Funcs.length → ShapeP r.1 i r.2.1 (atD r.2.2.1 i)) ∧ okC r.2.2.2 := by
  unfold law26_scene
  refine WP.call (new_sp cs 300 h (by omega)) fun x1 h1 => ?_
  refine WP.call (program_sp x1 3 12 h1 (by omega) (by omega)) fun x2 ⟨h2, h3, h4⟩ => ?_
  have h5 := h3.len
  refine WP.call (align5_sp _ h3) ?_
  rintro _ rfl
  obtain ⟨hp1, _, _⟩ := alP_pow h3 (.inl rfl)
  refine WP.loop (fun j => (0 ≤ j.1 ∧ j.1 ≤ x2.1.Funcs.length) ∧ okC j.2.1 ∧ (j.2.2.length : Int) = j.1 ∧ ∀ t, 0 ≤ t → t < j.1 → ShapeP x2.1 t (alignP x2.1) (atD j.2.2 t)) (fun j => x2.1.Funcs.length - j.1.toNat) ⟨⟨by simp, by simp⟩, h2, by simp, fun t q1 q2 => by exfalso; dsimp only at q2; omega⟩ ?_
  rintro again ⟨i, c, l⟩ ⟨⟨a1, a2⟩, a3, a4, a5⟩ ih
  dsimp only at a1 a2 a3 a4 a5 ih ⊢
  refine WP.bif (fun wh => ?_) (fun wh => ?_) <;> (try simp only [wpH, ne_eq] at wh)
  · have hi : inN i x2.1.Funcs.length := ⟨a1, wh⟩
    have hf := h3.func i a1 wh
    refine WP.call (base_shape h3 hi rfl) fun x4 ⟨_, b2, _, _⟩ => ?_
    refine WP.call (layout_sp h3 hi hp1 _ a3) fun x5 ⟨c1, c2⟩ => ?_
    refine WP.bif (fun wh => by cases wh) fun _ => ?_
    refine WP.chk hi fun _ => ?_
    refine WP.call (lives_sp _ c1 hf) fun x6 ⟨d1, d2⟩ => ?_
    refine WP.call (rcheck25_sp h3 hi rfl d2 x5.1) fun e he => ?_
    have hgo : ∀ z : ALayout, ShapeP x2.1 i (alignP x2.1) z → WP (M.chk (l.length + ([z] : List ALayout).length < 1000000000000) <| M.chk (okI (i + 1)) <| again ((i + 1), x6.2, (l ++ ([z] : List ALayout)))) _ := fun z hz => by
      refine WP.chk (by simp only [List.length_singleton]; omega) fun _ => ?_
      refine WP.chk ⟨by omega, by omega⟩ fun _ => ?_
      refine ih _ ⟨⟨by dsimp only; omega, by dsimp only; omega⟩, d1, by simp only [List.length_append, List.length_singleton]; omega, fun t q1 q2 => ?_⟩ (by dsimp only; omega)
      dsimp only at q2 ⊢
      by_cases ht : t = i
      · rw [ht, atD_last (by omega)]; exact hz
      · rw [atD_append_left (by omega)]; exact a5 t q1 (by omega)
    refine WP.bif (fun wh => ?_) (fun _ => hgo _ b2)
    rw [decide_eq_true_eq] at wh
    exact hgo _ (he wh)
  · refine WP.join (fun j => j = (l, c)) ?_ ?_
    · rintro _ rfl
      refine WP.ret ⟨h3, rfl, by dsimp only; omega, fun t ht => a5 t ht.1 (by have := ht.2; dsimp only at this; omega), a3⟩
    · intro k hk
      exact WP.bif (fun wh => by cases wh) fun _ => hk _ rfl
end Go.Proofs.YtjnfnochdefpjaaGreat.Q
