/- Frames: what Baseline and its reference compute. -/
import Derived.Test.YtjnfnochdefpjaaGreatP24
import Derived.Test.YtjnfnochdefpjaaGreatP3
set_option linter.unusedVariables false
set_option linter.unusedSimpArgs false
namespace Go.Proofs.YtjnfnochdefpjaaGreat.Q
def okS (s : ASlot) : Prop := 0 ≤ s.Size ∧ s.Size ≤ 16 ∧ powB s.Align = true
theorem rightS.okS {s : ASlot} (h : rightS s) : okS s := by
  have h1 := h.slotB
  unfold Go.Proofs.YtjnfnochdefpjaaGreat.Q.slotB at h1
  rw [Bool.and_eq_true] at h1
  refine ⟨?_, ?_, h1.2⟩ <;> (have h2 := h1.1; unfold sizeB at h2; rw [decide_eq_true_eq] at h2; omega)
def offF (p : List Int × Int) (s : ASlot) : List Int × Int := (p.1 ++ [upZ p.2 s.Align], upZ p.2 s.Align + s.Size)
def offL (e : Int) (l : List ASlot) : List Int × Int := l.foldl offF ([], e)
theorem offL_snoc (e : Int) (l : List ASlot) (s : ASlot) : offL e (l ++ [s]) = offF (offL e l) s := by
  unfold offL
  rw [List.foldl_append]
  rfl
theorem off_mono {l : List ASlot} : ∀ (p : List Int × Int), (∀ s ∈ l, okS s) → p.2 ≤ (l.foldl offF p).2 := by
  induction l with
  | nil => intro p _; exact Int.le_refl _
  | cons s r ih =>
    intro p h
    rw [List.foldl_cons]
    have h1 := ih (offF p s) fun x hx => h x (List.mem_cons_of_mem _ hx)
    have h2 := h s List.mem_cons_self
    have h3 := upZ_le (n := p.2) (powB_bd h2.2.2).1
    have h4 : (offF p s).2 = upZ p.2 s.Align + s.Size := rfl
    have h5 := h2.1
    omega
theorem offL_take {e : Int} {l : List ASlot} (h : ∀ s ∈ l, okS s) (k : Nat) : (offL e (l.take k)).2 ≤ (offL e l).2 := by
  have h1 := off_mono (l := l.drop k) (offL e (l.take k)) fun s hs => h s (List.mem_of_mem_drop hs)
  have h2 : offL e l = (l.drop k).foldl offF (offL e (l.take k)) := by
    unfold offL
    rw [← List.foldl_append, List.take_append_drop]
  rw [h2]; exact h1
theorem offL_len (e : Int) (l : List ASlot) : (offL e l).1.length = l.length := by
  have key : ∀ (l : List ASlot) (p : List Int × Int), (l.foldl offF p).1.length = p.1.length + l.length := by
    intro l
    induction l with
    | nil => intro p; rfl
    | cons s r ih => intro p; rw [List.foldl_cons, ih]; simp [offF]; omega
  unfold offL
  rw [key]; simp
def baseR (args : Int) (l : List ASlot) (al : Int) : ALayout × Int := if 2147483519 < upZ (offL args l).2 al then (⟨0, 0, []⟩, 9) else (⟨args, upZ (offL args l).2 al, (offL args l).1⟩, 0)
theorem baseR_err {args al : Int} {l : List ASlot} (hal : powB al = true) (h : 2147483519 < (offL args l).2) : baseR args l al = (⟨0, 0, []⟩, 9) := by
  have := upZ_le (n := (offL args l).2) (powB_bd hal).1
  unfold baseR
  rw [if_pos (by omega)]
section
variable {p : AProgram} {i al args : Int}
theorem sized_sp (y : ALayout) (e : Int) (h0 : 0 ≤ e) (h1 : e ≤ 2147483647) (hal : powB al = true) : WP (pack_sized y e al) (· = if 2147483519 < upZ e al then (⟨0, 0, []⟩, 9) else (⟨y.Args, upZ e al, y.Off⟩, 0)) := by
  have hb : boundB e = true := (boundB_iff e).2 ⟨h0, h1⟩
  have hle := upZ_le (n := e) (powB_bd hal).1
  unfold pack_sized
  refine WP.call (eUp_sp _ _) ?_
  rintro _ rfl
  unfold upQ
  rw [hb, hal]
  simp only [Bool.and_self, if_true]
  generalize upZ e al = z at *
  refine WP.join (fun x => x = if 2147483519 < z then 9 else 0) ?_ ?_
  · rintro _ rfl
    by_cases hz : 2147483519 < z
    · rw [if_pos hz, if_pos hz]
      refine WP.bif (fun _ => WP.ret rfl) (fun wh => by simp at wh)
    · rw [if_neg hz, if_neg hz, if_neg (by omega)]
      refine WP.bif (fun wh => by simp at wh) (fun _ => WP.ret rfl)
  · intro k hk
    by_cases hz : 2147483647 < z
    · rw [if_pos hz]
      refine WP.bif (fun wh => by simp at wh) (fun _ => hk _ (by rw [if_pos (by omega)]))
    · rw [if_neg hz]
      refine WP.bif (fun _ => ?_) (fun wh => by simp at wh)
      refine WP.call (eAdd_sp _ _) ?_
      rintro _ rfl
      refine hk _ ?_
      unfold addQ
      rw [(boundB_iff z).2 ⟨by omega, by omega⟩, show boundB 128 = true from rfl]
      simp only [Bool.and_self, if_true]
      by_cases hz2 : 2147483519 < z
      · rw [if_pos (by omega), if_pos hz2]
      · rw [if_neg (by omega), if_neg hz2]
theorem baseline_sp (hi : inN i p.Funcs.length) (ha : WP (pack_Args p i) (· = args)) (h0 : 0 ≤ args) (h1 : args ≤ 2147483647) (hs : ∀ s ∈ (atD p.Funcs i).Slots, okS s) (hl : (atD p.Funcs i).Slots.length ≤ 1000000) (hal : powB al = true) : WP (pack_Baseline p i al) (· = baseR args (atD p.Funcs i).Slots al) := by
  unfold pack_Baseline
  refine WP.call ha ?_
  intro x hx
  rw [hx]
  clear hx x
  refine WP.chk hi fun _ => ?_
  generalize (atD p.Funcs i).Slots = l at *
  refine WP.loop (fun j => (0 ≤ j.2.1 ∧ j.2.1 ≤ l.length) ∧ (0 ≤ j.1 ∧ j.1 ≤ 2147483647) ∧ (j.2.2, j.1) = offL args (l.take j.2.1.toNat)) (fun j => l.length - j.2.1.toNat) ⟨⟨by simp, by simp⟩, ⟨h0, h1⟩, rfl⟩ ?_
  rintro again ⟨e, k, own⟩ ⟨⟨a1, a2⟩, ⟨a3, a4⟩, a5⟩ ih
  dsimp only at a1 a2 a3 a4 a5 ih ⊢
  have hown : own.length = (l.take k.toNat).length := by rw [← offL_len args, ← a5]
  have hown2 : own.length ≤ l.length := by rw [hown, List.length_take]; omega
  have he : (offL args (l.take k.toNat)).2 = e := by rw [← a5]
  refine WP.bif (fun wh => ?_) (fun wh => ?_) <;> (try simp only [wpH, ne_eq] at wh)
  · have hkl := wh
    have hm := atD_mem (l := l) (i := k) ⟨a1, wh⟩
    obtain ⟨s1, s2, s3⟩ := hs _ hm
    have htk := take_atD (l := l) (k := k) ⟨a1, wh⟩
    have hnx : (offL args (l.take (k + 1).toNat)) = (own ++ [upZ e (atD l k).Align], upZ e (atD l k).Align + (atD l k).Size) := by
      rw [htk, offL_snoc, ← a5]; rfl
    have hmx := offL_take (e := args) hs (k + 1).toNat
    rw [hnx] at hmx
    dsimp only at hmx
    have hle := upZ_le (n := e) (powB_bd s3).1
    generalize atD l k = s at *
    refine WP.chk ⟨a1, wh⟩ fun _ => ?_
    refine WP.call (eUp_sp _ _) ?_
    rintro _ rfl
    unfold upQ
    rw [(boundB_iff e).2 ⟨a3, a4⟩, s3]
    simp only [Bool.and_self, if_true]
    generalize upZ e s.Align = z at *
    refine WP.join (fun j => (j.2 = 0 ∧ j.1 = z + s.Size ∧ z + s.Size ≤ 2147483647 ∧ z ≤ 2147483647) ∨ (j.2 ≠ 0 ∧ 2147483647 < z + s.Size)) ?_ ?_
    · rintro ⟨e2, x⟩ hj
      dsimp only at hj ⊢
      refine WP.bif (fun wh => ?_) (fun wh => ?_) <;> (try simp only [wpH, ne_eq] at wh)
      · exact WP.ret (baseR_err hal (by omega)).symm
      · obtain ⟨_, rfl, q1, q2⟩ := hj.resolve_right fun q => q.1 wh
        refine WP.chk (by simp only [List.length_singleton]; omega) fun _ => ?_
        refine WP.chk ⟨by omega, by omega⟩ fun _ => ?_
        refine ih _ ⟨⟨by dsimp only; omega, by dsimp only; omega⟩, ⟨by dsimp only; omega, by dsimp only; omega⟩, ?_⟩ (by dsimp only; omega)
        dsimp only
        rw [hnx, if_neg (by omega)]
    · intro k1 hk1
      by_cases hz : 2147483647 < z
      · rw [if_pos hz]
        refine WP.bif (fun wh => by simp at wh) (fun _ => hk1 _ (.inr ⟨by simp, by omega⟩))
      · rw [if_neg hz]
        refine WP.bif (fun _ => ?_) (fun wh => by simp at wh)
        refine WP.call (eAdd_sp _ _) ?_
        rintro _ rfl
        unfold addQ
        rw [(boundB_iff z).2 ⟨by omega, by omega⟩, (boundB_iff s.Size).2 ⟨by omega, by omega⟩]
        simp only [Bool.and_self, if_true]
        by_cases hz2 : 2147483647 < z + s.Size
        · rw [if_pos hz2]; exact hk1 _ (.inr ⟨by simp, hz2⟩)
        · rw [if_neg hz2]; exact hk1 _ (.inl ⟨rfl, rfl, by omega, by omega⟩)
  · rw [take_all (by omega)] at a5
    refine WP.call (sized_sp _ _ a3 a4 hal) ?_
    rintro _ rfl
    refine WP.ret ?_
    unfold baseR
    rw [← a5]
theorem rbaseline_sp (hi : inN i p.Funcs.length) (ha : WP (r24_Args p i) (· = args)) (h0 : 0 ≤ args) (h1 : args ≤ 2147483647) (hs : ∀ s ∈ (atD p.Funcs i).Slots, okS s) (hl : (atD p.Funcs i).Slots.length ≤ 1000000) (hal : powB al = true) : WP (r24_Baseline p i al) (· = baseR args (atD p.Funcs i).Slots al) := by
  unfold r24_Baseline
  refine WP.call ha ?_
  intro x hx
  rw [hx]
  clear hx x
  refine WP.chk hi fun _ => ?_
  generalize (atD p.Funcs i).Slots = l at *
  refine WP.loop (fun j => (0 ≤ j.2.1 ∧ j.2.1 ≤ l.length) ∧ (0 ≤ j.1 ∧ j.1 ≤ 2147483647) ∧ (j.2.2, j.1) = offL args (l.take j.2.1.toNat)) (fun j => l.length - j.2.1.toNat) ⟨⟨by simp, by simp⟩, ⟨h0, h1⟩, rfl⟩ ?_
  rintro again ⟨e, k, own⟩ ⟨⟨a1, a2⟩, ⟨a3, a4⟩, a5⟩ ih
  dsimp only at a1 a2 a3 a4 a5 ih ⊢
  have hown : own.length = (l.take k.toNat).length := by rw [← offL_len args, ← a5]
  have hown2 : own.length ≤ l.length := by rw [hown, List.length_take]; omega
  have he : (offL args (l.take k.toNat)).2 = e := by rw [← a5]
  refine WP.bif (fun wh => ?_) (fun wh => ?_) <;> (try simp only [wpH, ne_eq] at wh)
  · have hkl := wh
    have hm := atD_mem (l := l) (i := k) ⟨a1, wh⟩
    obtain ⟨s1, s2, s3⟩ := hs _ hm
    have htk := take_atD (l := l) (k := k) ⟨a1, wh⟩
    have hnx : (offL args (l.take (k + 1).toNat)) = (own ++ [upZ e (atD l k).Align], upZ e (atD l k).Align + (atD l k).Size) := by
      rw [htk, offL_snoc, ← a5]; rfl
    have hmx := offL_take (e := args) hs (k + 1).toNat
    rw [hnx] at hmx
    dsimp only at hmx
    have hle := upZ_le (n := e) (powB_bd s3).1
    generalize atD l k = s at *
    refine WP.chk ⟨a1, wh⟩ fun _ => ?_
    refine WP.call (rUp_sp _ _) ?_
    rintro _ rfl
    unfold upQ
    rw [(boundB_iff e).2 ⟨a3, a4⟩, s3]
    simp only [Bool.and_self, if_true]
    generalize upZ e s.Align = z at *
    by_cases hz : 2147483647 < z
    · rw [if_pos hz]
      refine WP.bif (fun _ => ?_) (fun wh => by simp at wh)
      exact WP.ret (baseR_err hal (by omega)).symm
    · rw [if_neg hz]
      refine WP.bif (fun wh => by simp at wh) (fun _ => ?_)
      dsimp only
      refine WP.chk ⟨a1, hkl⟩ fun _ => ?_
      refine WP.chk ⟨by omega, by omega⟩ fun _ => ?_
      refine WP.bif (fun wh => ?_) (fun wh => ?_) <;> (try simp only [wpH, ne_eq] at wh)
      · exact WP.ret (baseR_err hal (by omega)).symm
      · refine WP.chk (by omega) fun _ => ?_
        refine WP.chk (by simp only [List.length_singleton]; omega) fun _ => ?_
        refine WP.chk ⟨a1, hkl⟩ fun _ => ?_
        refine WP.chk ⟨by omega, by omega⟩ fun _ => ?_
        refine WP.chk ⟨by omega, by omega⟩ fun _ => ?_
        refine ih _ ⟨⟨by dsimp only; omega, by dsimp only; omega⟩, ⟨by dsimp only; omega, by dsimp only; omega⟩, ?_⟩ (by dsimp only; omega)
        dsimp only
        rw [hnx]
  · rw [take_all (by omega)] at a5
    have hle := upZ_le (n := e) (powB_bd hal).1
    refine WP.call (rUp_sp _ _) ?_
    rintro _ rfl
    unfold upQ baseR
    rw [(boundB_iff e).2 ⟨a3, a4⟩, hal, ← a5]
    simp only [Bool.and_self, if_true]
    generalize upZ e al = z at *
    by_cases hz : 2147483647 < z
    · rw [if_pos hz]
      refine WP.bif (fun _ => ?_) (fun wh => by simp at wh)
      exact WP.ret (by rw [if_pos (by omega)])
    · rw [if_neg hz]
      refine WP.bif (fun wh => by simp at wh) (fun _ => ?_)
      refine WP.bif (fun wh => ?_) (fun wh => ?_) <;> (try simp only [wpH, ne_eq] at wh)
      · exact WP.ret (by rw [if_pos wh])
      · exact WP.ret (by rw [if_neg (Int.not_lt.2 wh)])
theorem rargs24_sp (p : AProgram) (i : Int) (hp : WfP p) (hi : inN i p.Funcs.length) : WP (r24_Args p i) (· = 16 * argsN p (atD p.Funcs i).Code) := by
  unfold r24_Args
  obtain ⟨hi1, hi2⟩ := hi
  have hc := (hp.func i hi1 hi2).code
  (repeat' (first | (refine WP.chk (by (first | omega | (simp only [okI, List.length_append, List.length_cons, List.length_nil, length_setD, length_repD] at *; omega))) fun _ => ?_) | ((refine WP.bif (fun wh => ?_) (fun wh => ?_)) <;> (try simp only [wpH, ne_eq] at wh) <;> (try (exfalso; omega)))))
  generalize hf : atD p.Funcs i = f at *
  have hT : ∀ k : Int, 0 ≤ argsN p (f.Code.take k.toNat) ∧ argsN p (f.Code.take k.toNat) ≤ 8 := fun k => by
    have := argsN_R hp ⟨hi1, hi2⟩ (l := f.Code.take k.toNat) fun x hx => by rw [hf]; exact List.take_subset _ _ hx
    omega
  refine WP.loop (fun j => 0 ≤ j.2 ∧ j.2 ≤ f.Code.length ∧ j.1 = argsN p (f.Code.take j.2.toNat)) (fun j => f.Code.length - j.2.toNat) ⟨by simp, by simp, rfl⟩ ?_
  rintro again ⟨n, k⟩ ⟨h1, h2, h3⟩ ih
  dsimp only at h1 h2 h3 ih ⊢
  have hTk := hT k
  rw [← h3] at hTk
  refine WP.bif (fun wh => ?_) (fun wh => ?_) <;> (try simp only [wpH, ne_eq] at wh)
  · have hN := (hp.at_ (i := i) (k := k) ⟨hi1, hi2⟩ ⟨h1, by rw [hf]; exact wh⟩).need hp hi1
    rw [hf] at hN
    have hs : ∀ m, needA p (atD f.Code k) = m → max n m = argsN p (f.Code.take (k + 1).toNat) := fun m hm => by
      rw [take_atD ⟨h1, wh⟩, argsN_snoc, ← h3, hm]
    generalize hx : atD f.Code k = x at *
    (repeat' (first | (refine WP.chk (by (first | omega | (simp only [okI, List.length_append, List.length_cons, List.length_nil, length_setD, length_repD] at *; omega))) fun _ => ?_) | ((refine WP.bif (fun wh => ?_) (fun wh => ?_)) <;> (try simp only [wpH, ne_eq] at wh) <;> (try (exfalso; omega)))))
    · exact ih _ ⟨by dsimp only; omega, by dsimp only; omega, hs _ (by unfold needA; rw [if_pos (by assumption)])⟩ (by dsimp only; omega)
    · exact ih _ ⟨by dsimp only; omega, by dsimp only; omega, hs _ (by unfold needA; rw [if_neg (by assumption), if_pos (by assumption)])⟩ (by dsimp only; omega)
    · refine ih _ ⟨by dsimp only; omega, by dsimp only; omega, ?_⟩ (by dsimp only; omega)
      have := hs 0 (by unfold needA; rw [if_neg (by assumption), if_neg (by assumption)])
      dsimp only
      omega
  · (repeat' (first | (refine WP.chk (by (first | omega | (simp only [okI, List.length_append, List.length_cons, List.length_nil, length_setD, length_repD] at *; omega))) fun _ => ?_) | ((refine WP.bif (fun wh => ?_) (fun wh => ?_)) <;> (try simp only [wpH, ne_eq] at wh) <;> (try (exfalso; omega)))))
    refine WP.ret ?_
    rw [h3, take_all (by omega), Int.mul_comm]
/-- The frame of the scene: no error. -/
theorem baseR_small {l : List ASlot} (h0 : 0 ≤ args) (h1 : args ≤ 1000) (hl : l.length ≤ 6) (hs : ∀ s ∈ l, rightS s) (hal : powB al = true) (ha2 : al ≤ 1000) : baseR args l al = (⟨args, upZ (offL args l).2 al, (offL args l).1⟩, 0) ∧ args ≤ (offL args l).2 ∧ (offL args l).2 ≤ args + 80 * l.length ∧ upZ (offL args l).2 al ≤ 3000 := by
  have key : ∀ (l : List ASlot) (q : List Int × Int), (∀ s ∈ l, rightS s) → (l.foldl offF q).2 ≤ q.2 + 80 * l.length := by
    intro l
    induction l with
    | nil => intro q _; simp
    | cons s r ih =>
      intro q h
      rw [List.foldl_cons]
      have h1 := ih (offF q s) fun x hx => h x (List.mem_cons_of_mem _ hx)
      have h2 := h s List.mem_cons_self
      have h3 := upZ_lt (n := q.2) (powB_bd h2.okS.2.2).1
      have h4 : (offF q s).2 = upZ q.2 s.Align + s.Size := rfl
      have h5 : s.Align ≤ 64 ∧ s.Size ≤ 16 := by unfold rightS at h2; omega
      rw [List.length_cons]
      omega
  have q1 := key l ([], args) hs
  have q2 := off_mono (l := l) ([], args) fun s h => (hs s h).okS
  have q3 := upZ_lt (n := (offL args l).2) (powB_bd hal).1
  change (offL args l).2 ≤ args + _ at q1
  change args ≤ (offL args l).2 at q2
  refine ⟨?_, q2, q1, by omega⟩
  unfold baseR
  rw [if_neg (by omega)]
end
theorem alP_pow {p : AProgram} (hp : WfP p) {al : Int} (h : al = alignP p ∨ al = alignP p * 2 ∨ al = alignP p * 4) : powB al = true ∧ al ≤ 256 ∧ 1 ≤ al := by
  have h1 := (alignP_R hp).1
  unfold alR at h1
  have h2 : al = 16 ∨ al = 32 ∨ al = 64 ∨ al = 128 ∨ al = 256 := by omega
  refine ⟨?_, by omega, by omega⟩
  rcases h2 with h | h | h | h | h <;> subst h <;> decide
end Go.Proofs.YtjnfnochdefpjaaGreat.Q
