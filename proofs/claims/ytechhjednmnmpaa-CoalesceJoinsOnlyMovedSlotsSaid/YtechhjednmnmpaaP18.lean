/- The graph of the slots that may not share bytes; the moves; the classes. -/
import Derived.Test.YtechhjednmnmpaaP16
set_option linter.unusedVariables false
set_option linter.unusedSimpArgs false
namespace Go.Proofs.Ytechhjednmnmpaa.Q
/-- A graph of n slots whose edges are P. -/
structure GraphS (n : Nat) (g : List (List Int)) (P : Int → Int → Prop) : Prop where
  len : g.length = n
  set : ∀ s, inN s n → IsS (atD g s) ∧ ∀ y, y ∈ atD g s ↔ P s y
  lt : ∀ s y, inN s n → P s y → inN y n
theorem GraphS.congr {n : Nat} {g : List (List Int)} {P P' : Int → Int → Prop} (h : GraphS n g P) (e : ∀ s y, P' s y ↔ P s y) : GraphS n g P' :=
  ⟨h.len, fun s hs => ⟨(h.set s hs).1, fun y => ((h.set s hs).2 y).trans (e s y).symm⟩, fun s y hs hp => h.lt s y hs ((e s y).1 hp)⟩
theorem GraphS.add {n : Nat} {g : List (List Int)} {P : Int → Int → Prop} (h : GraphS n g P) (hn : n ≤ 512) {a b : Int} (ha : inN a n) (hb : inN b n) (hab : b ≠ a) : GraphS n (setD (setD g a (addS (atD g a) b)) b (addS (atD g b) a)) (fun s y => P s y ∨ (s = a ∧ y = b) ∨ (s = b ∧ y = a)) := by
  have hl := h.len
  obtain ⟨ha1, ha2⟩ := ha
  obtain ⟨hb1, hb2⟩ := hb
  have e : ∀ s, 0 ≤ s → atD (setD (setD g a (addS (atD g a) b)) b (addS (atD g b) a)) s = if s = b then addS (atD g b) a else if s = a then addS (atD g a) b else atD g s := fun s hs => by
    rw [atD_setD ⟨hb1, by rw [length_setD]; omega⟩ hs, atD_setD ⟨ha1, by omega⟩ hs]
  refine ⟨by rw [length_setD, length_setD, hl], fun s hs => ?_, fun s y hs hp => ?_⟩
  · obtain ⟨q1, q2⟩ := h.set s hs
    rw [e s hs.1]
    split
    · rename_i he
      subst he
      refine ⟨q1.add _, fun y => ?_⟩
      rw [mem_addS, q2]
      constructor
      · rintro (h1 | ⟨rfl, _⟩)
        · exact .inl h1
        · exact .inr (.inr ⟨rfl, rfl⟩)
      · rintro (h1 | h1 | h1)
        · exact .inl h1
        · exact (hab h1.1).elim
        · exact .inr ⟨h1.2, by omega, by omega⟩
    · rename_i he
      split
      · rename_i he2
        subst he2
        refine ⟨q1.add _, fun y => ?_⟩
        rw [mem_addS, q2]
        constructor
        · rintro (h1 | ⟨rfl, _⟩)
          · exact .inl h1
          · exact .inr (.inl ⟨rfl, rfl⟩)
        · rintro (h1 | h1 | h1)
          · exact .inl h1
          · exact .inr ⟨h1.2, by omega, by omega⟩
          · exact (he h1.1).elim
      · rename_i he2
        refine ⟨q1, fun y => (q2 y).trans ⟨.inl, ?_⟩⟩
        rintro (h1 | h1 | h1)
        · exact h1
        · exact (he2 h1.1).elim
        · exact (he h1.1).elim
  · rcases hp with hp | ⟨_, rfl⟩ | ⟨_, rfl⟩
    · exact h.lt s y hs hp
    · exact ⟨hb1, hb2⟩
    · exact ⟨ha1, ha2⟩
/-- Slot s is written at k while t is alive. -/
def Cl (f : AFunc) (strict : Bool) (k : Int) (L : List Int) (s t : Int) : Prop := remB (atD f.Code k) = true ∧ ¬ ((atD f.Code k).Op = 17 ∧ (atD f.Code k).A = (atD f.Code k).B) ∧ s = (atD f.Code k).A ∧ t ∈ L ∧ t ≠ s ∧ (strict = true ∨ ¬ ((atD f.Code k).Op = 17 ∧ (atD f.Code k).B = t))
/-- The edges to k. -/
def ClU (f : AFunc) (strict : Bool) (out : List (List Int)) (k : Int) (s t : Int) : Prop := ∃ j, 0 ≤ j ∧ j < k ∧ (Cl f strict j (atD out j) s t ∨ Cl f strict j (atD out j) t s)
/-- The edges. -/
def Edge (f : AFunc) (strict : Bool) (out : List (List Int)) (s t : Int) : Prop := ClU f strict out f.Code.length s t
theorem Edge.symm {f : AFunc} {strict : Bool} {out : List (List Int)} {s t : Int} (h : Edge f strict out s t) : Edge f strict out t s := by
  obtain ⟨j, h1, h2, h3⟩ := h
  exact ⟨j, h1, h2, h3.symm⟩
theorem Edge.ne {f : AFunc} {strict : Bool} {out : List (List Int)} {s t : Int} (h : Edge f strict out s t) : s ≠ t := by
  obtain ⟨j, h1, h2, h3 | h3⟩ := h
  · exact fun e => h3.2.2.2.2.1 e.symm
  · exact h3.2.2.2.2.1
theorem ClU.succ {f : AFunc} {strict : Bool} {out : List (List Int)} {k s t : Int} (hk : 0 ≤ k) : ClU f strict out (k + 1) s t ↔ ClU f strict out k s t ∨ Cl f strict k (atD out k) s t ∨ Cl f strict k (atD out k) t s := by
  constructor
  · rintro ⟨j, h1, h2, h3⟩
    by_cases h : j = k
    · subst h; exact .inr h3
    · exact .inl ⟨j, h1, by omega, h3⟩
  · rintro (⟨j, h1, h2, h3⟩ | h3)
    · exact ⟨j, h1, by omega, h3⟩
    · exact ⟨k, hk, by omega, h3⟩
section
variable {n i par : Int} {f : AFunc} {l : ALive}
theorem graph18_sp (hf : WfF n i par f) (h : Live f l.Out) (strict : Bool) : WP (r18_graph f l strict) fun r => r.2 = 0 ∧ GraphS f.Slots.length r.1 (Edge f strict l.Out) := by
  have hc := hf.code
  have hsl := hf.slots
  have hl := h.ann.len
  unfold r18_graph
  refine WP.call (check17_sp hf h) ?_
  rintro _ rfl
  refine WP.bif (fun wh => by simp at wh) fun _ => ?_
  refine WP.chk ⟨by omega, by omega⟩ fun _ => ?_
  have hrep : ∀ k : Int, atD (repD (f.Slots.length : Int) : List (List Int)) k = [] := fun k => by
    unfold atD repD
    rw [List.getD_eq_getElem?_getD, List.getElem?_replicate]
    split <;> rfl
  refine WP.loop (fun j => (0 ≤ j.1 ∧ j.1 ≤ f.Code.length) ∧ GraphS f.Slots.length j.2 (ClU f strict l.Out j.1)) (fun j => f.Code.length - j.1.toNat) ⟨⟨by simp, by simp⟩, ⟨by dsimp only; rw [length_repD]; omega, fun s _ => ?_, fun s y _ hp => ?_⟩⟩ ?_
  · dsimp only
    rw [hrep]
    refine ⟨IsS.nil, fun y => ⟨fun q => (by cases q), ?_⟩⟩
    rintro ⟨j, h1, h2, _⟩
    exfalso; omega
  · obtain ⟨j, h1, h2, _⟩ := hp
    exfalso; dsimp only at h2; omega
  rintro again1 ⟨k, out⟩ ⟨⟨a1, a2⟩, a3⟩ ih1
  dsimp only at a1 a2 a3 ih1 ⊢
  refine WP.bif (fun wh => ?_) (fun wh => ?_) <;> (try simp only [wpH, ne_eq] at wh)
  · have hk : inN k f.Code.length := ⟨a1, wh⟩
    have hkl := wh
    refine WP.chk ⟨a1, wh⟩ fun _ => ?_
    refine WP.call (defines_sp _) ?_
    rintro _ rfl
    obtain ⟨hS, hSlt⟩ := h.ann.set k hk
    have hSl := hS.length
    have hI := hf.at_ hk
    -- no edge comes at a move onto itself
    have hskip : (¬ ∃ s t, Cl f strict k (atD l.Out k) s t) → WP (again1 (k + 1, out)) fun r => r.2 = 0 ∧ GraphS f.Slots.length r.1 (Edge f strict l.Out) := fun hno => by
      refine ih1 (k + 1, out) ⟨⟨by dsimp only; omega, by dsimp only; omega⟩, a3.congr fun s y => ?_⟩ (by dsimp only; omega)
      rw [ClU.succ a1]
      constructor
      · rintro (q | q | q)
        · exact q
        · exact (hno ⟨_, _, q⟩).elim
        · exact (hno ⟨_, _, q⟩).elim
      · exact .inl
    refine WP.join (fun _ => ¬ ((atD f.Code k).Op = 17 ∧ (atD f.Code k).A = (atD f.Code k).B)) ?_ ?_
    · rintro ⟨⟩ hns
      cases hrem : remB (atD f.Code k) with
      | false =>
        simp only [Bool.false_eq_true, if_false]
        have hno : ¬ ∃ s t, Cl f strict k (atD l.Out k) s t := by
          rintro ⟨s, t, q, _⟩
          rw [hrem] at q; cases q
        refine WP.loop (fun j => j = (0, out)) (fun _ => 1) rfl ?_
        rintro again2 _ rfl ih2
        refine WP.chk ⟨a1, by omega⟩ fun _ => ?_
        refine WP.bif (fun _ => ?_) (fun _ => ?_)
        · refine WP.bif (fun q => by cases q) fun _ => ?_
          refine WP.chk ⟨by omega, by omega⟩ fun _ => hskip hno
        · exact WP.chk ⟨by omega, by omega⟩ fun _ => hskip hno
      | true =>
        simp only [if_true]
        obtain ⟨hA1, hA2⟩ := hI.dfn hrem
        generalize hx : atD f.Code k = x at *
        generalize hL : atD l.Out k = L at *
        refine WP.loop (fun j => (0 ≤ j.1 ∧ j.1 ≤ L.length) ∧ GraphS f.Slots.length j.2 (fun s t => ClU f strict l.Out k s t ∨ Cl f strict k (L.take j.1.toNat) s t ∨ Cl f strict k (L.take j.1.toNat) t s)) (fun j => L.length - j.1.toNat) ⟨⟨by simp, by simp⟩, a3.congr fun s y => ⟨?_, .inl⟩⟩ ?_
        · rintro (q | q | q)
          · exact q
          · have := q.2.2.2.1; simp at this
          · have := q.2.2.2.1; simp at this
        rintro again2 ⟨t, g⟩ ⟨⟨b1, b2⟩, b3⟩ ih2
        dsimp only at b1 b2 b3 ih2 ⊢
        refine WP.chk ⟨a1, by omega⟩ fun _ => ?_
        refine WP.bif (fun wh => ?_) (fun wh => ?_) <;> (try simp only [wpH, ne_eq] at wh)
        · have hLt : atD L t ∈ L := atD_mem ⟨b1, wh⟩
          have hin : inN (atD L t) f.Slots.length := ⟨(hS.rng _ hLt).1, hSlt _ hLt⟩
          have htk := take_atD (l := L) (k := t) ⟨b1, wh⟩
          have htl := wh
          obtain ⟨hin1, hin2⟩ := hin
          generalize hv : atD L t = v at *
          have hstep : ∀ s y, (Cl f strict k (L.take (t + 1).toNat) s y) ↔ Cl f strict k (L.take t.toNat) s y ∨ (s = x.A ∧ y = v ∧ v ≠ x.A ∧ (strict = true ∨ ¬ (x.Op = 17 ∧ x.B = v))) := fun s y => by
            unfold Cl
            rw [hx, htk, List.mem_append, List.mem_singleton]
            constructor
            · rintro ⟨q1, q2, q3, q4 | q4, q5, q6⟩
              · exact .inl ⟨q1, q2, q3, q4, q5, q6⟩
              · subst q4; exact .inr ⟨q3, rfl, q3 ▸ q5, q6⟩
            · rintro (⟨q1, q2, q3, q4, q5, q6⟩ | ⟨q3, q4, q5, q6⟩)
              · exact ⟨q1, q2, q3, .inl q4, q5, q6⟩
              · subst q4; exact ⟨hrem, hns, q3, .inr rfl, q3 ▸ q5, q6⟩
          have hno : (v = x.A ∨ (strict = false ∧ x.Op = 17 ∧ x.B = v)) → WP (again2 (t + 1, g)) fun r => r.2 = 0 ∧ GraphS f.Slots.length r.1 (Edge f strict l.Out) := fun hq => by
            have hq' : ∀ s y, ¬ (s = x.A ∧ y = v ∧ v ≠ x.A ∧ (strict = true ∨ ¬ (x.Op = 17 ∧ x.B = v))) := by
              rintro s y ⟨q1, q2, q3, q4⟩
              rcases hq with hq | hq
              · exact q3 hq
              · rcases q4 with q4 | q4
                · rw [hq.1] at q4; cases q4
                · exact q4 hq.2
            refine ih2 (t + 1, g) ⟨⟨by dsimp only; omega, by dsimp only; omega⟩, b3.congr fun s y => ?_⟩ (by dsimp only; omega)
            dsimp only
            rw [hstep, hstep]
            have h1 := hq' s y
            have h2 := hq' y s
            simp only [h1, h2, or_false]
          refine WP.bif (fun _ => ?_) (fun q => by cases q)
          refine WP.chk ⟨a1, by omega⟩ fun _ => ?_
          refine WP.chk ⟨b1, wh⟩ fun _ => ?_
          refine WP.join (fun _ => v ≠ x.A ∧ (strict = true ∨ ¬ (x.Op = 17 ∧ x.B = v))) ?_ ?_
          · rintro ⟨_, _, _⟩ hq
            have hgl := b3.len
            have hgA := (b3.set x.A ⟨hA1, hA2⟩).1.length
            have hgv := (b3.set v ⟨hin1, hin2⟩).1.length
            refine WP.chk ⟨hA1, by omega⟩ fun _ => ?_
            refine WP.call (add_sp _ _ (by omega)) ?_
            rintro _ rfl
            refine WP.chk ⟨hin1, by omega⟩ fun _ => ?_
            refine WP.call (add_sp _ _ (by omega)) ?_
            rintro _ rfl
            refine WP.chk ⟨hA1, by omega⟩ fun _ => ?_
            refine WP.chk ⟨hin1, by rw [length_setD]; omega⟩ fun _ => ?_
            refine WP.chk ⟨by omega, by omega⟩ fun _ => ?_
            refine ih2 _ ⟨⟨by dsimp only; omega, by dsimp only; omega⟩, (b3.add (by omega) ⟨hA1, hA2⟩ ⟨hin1, hin2⟩ hq.1).congr fun s y => ?_⟩ (by dsimp only; omega)
            dsimp only
            rw [hstep, hstep]
            obtain ⟨hq1, hq2⟩ := hq
            grind
          · intro k3 hk3
            refine WP.bif (fun wh => ?_) (fun wh => ?_) <;> (try simp only [wpH, ne_eq] at wh)
            · exact WP.chk ⟨by omega, by omega⟩ fun _ => hno (.inl wh)
            · have hne := wh
              refine WP.bif (fun wh => ?_) (fun wh => ?_) <;> (try simp only [wpH, ne_eq] at wh)
              · have hst := wh
                refine WP.bif (fun wh => ?_) (fun wh => ?_) <;> (try simp only [wpH, ne_eq] at wh)
                · have h17 := wh
                  refine WP.bif (fun wh => ?_) (fun wh => ?_) <;> (try simp only [wpH, ne_eq] at wh)
                  · exact WP.chk ⟨by omega, by omega⟩ fun _ => hno (.inr ⟨hst, h17, wh⟩)
                  · exact hk3 _ ⟨hne, .inr fun q => wh q.2⟩
                · exact hk3 _ ⟨hne, .inr fun q => wh q.1⟩
              · exact hk3 _ ⟨hne, .inl wh⟩
        · refine WP.chk ⟨by omega, by omega⟩ fun _ => ?_
          refine ih1 (k + 1, g) ⟨⟨by dsimp only; omega, by dsimp only; omega⟩, b3.congr fun s y => ?_⟩ (by dsimp only; omega)
          dsimp only
          rw [ClU.succ a1, hL, take_all (by omega)]
    · intro k2 hk2
      have hself : (atD f.Code k).Op = 17 → (atD f.Code k).A = (atD f.Code k).B → ¬ ∃ s t, Cl f strict k (atD l.Out k) s t := fun q1 q2 ⟨s, t, _, q, _⟩ => q ⟨q1, q2⟩
      refine WP.bif (fun wh => ?_) (fun wh => ?_) <;> (try simp only [wpH, ne_eq] at wh)
      · have h17 := wh
        refine WP.bif (fun wh => ?_) (fun wh => ?_) <;> (try simp only [wpH, ne_eq] at wh)
        · exact WP.chk ⟨by omega, by omega⟩ fun _ => hskip (hself h17 wh)
        · exact hk2 _ fun q => wh q.2
      · exact hk2 _ fun q => wh q.1
  · refine WP.ret ⟨rfl, a3.congr fun s y => ?_⟩
    unfold Edge
    rw [show k = (f.Code.length : Int) by omega]
theorem Graph18_sp (hf : WfF n i par f) (h : Live f l.Out) : WP (r18_Graph f l) fun r => r.2 = 0 ∧ GraphS f.Slots.length r.1 (Edge f false l.Out) := by
  unfold r18_Graph
  exact WP.call (graph18_sp hf h false) fun x hx => WP.ret hx
/-! ### Moves, classes -/
end
def membS (to : List Int) (s : Int) : List Int := ((List.range to.length).filter fun t : Nat => decide (atD to (t : Int) = s)).map fun t : Nat => (t : Int)
theorem mem_membS {to : List Int} {s y : Int} : y ∈ membS to s ↔ inN y to.length ∧ atD to y = s := by
  unfold membS
  rw [List.mem_map]
  constructor
  · rintro ⟨a, h1, rfl⟩
    rw [List.mem_filter, List.mem_range, decide_eq_true_eq] at h1
    exact ⟨⟨by omega, by omega⟩, h1.2⟩
  · rintro ⟨⟨h1, h2⟩, h3⟩
    refine ⟨y.toNat, ?_, by omega⟩
    rw [List.mem_filter, List.mem_range, decide_eq_true_eq, Int.toNat_of_nonneg h1]
    exact ⟨by omega, h3⟩
theorem membS_length (to : List Int) (s : Int) : (membS to s).length ≤ to.length := by
  unfold membS
  rw [List.length_map]
  exact Nat.le_trans (List.length_filter_le _ _) (by simp)
theorem members_sp (to : List Int) (s : Int) (hl : to.length ≤ 1000000) : WP (r19_Members to s) (· = membS to s) := by
  unfold r19_Members
  refine WP.loop (fun j => ∃ m : Nat, m ≤ to.length ∧ j.1 = m ∧ j.2 = ((List.range m).filter fun t : Nat => decide (atD to (t : Int) = s)).map fun t : Nat => (t : Int)) (fun j => to.length - j.1.toNat) ⟨0, by simp, by simp, by simp⟩ ?_
  rintro again ⟨t, out⟩ ⟨m, h1, h2, h3⟩ ih
  dsimp only at h2 h3 ih ⊢
  subst h2
  have hol : out.length ≤ m := by
    rw [h3, List.length_map]
    exact Nat.le_trans (List.length_filter_le _ _) (by simp)
  refine WP.bif (fun wh => ?_) (fun wh => ?_) <;> (try simp only [wpH, ne_eq] at wh)
  · have hlt := wh
    refine WP.chk ⟨by omega, by omega⟩ fun _ => ?_
    refine WP.bif (fun wh => ?_) (fun wh => ?_) <;> (try simp only [wpH, ne_eq] at wh)
    · refine WP.chk (by simp only [List.length_singleton]; omega) fun _ => ?_
      refine WP.chk ⟨by omega, by omega⟩ fun _ => ?_
      refine ih _ ⟨m + 1, by omega, by simp, ?_⟩ (by dsimp only; omega)
      rw [List.range_succ, List.filter_append, List.map_append, ← h3]
      simp [wh]
    · refine WP.chk ⟨by omega, by omega⟩ fun _ => ?_
      refine ih _ ⟨m + 1, by omega, by simp, ?_⟩ (by dsimp only; omega)
      rw [List.range_succ, List.filter_append, List.map_append, ← h3]
      simp [wh]
  · refine WP.ret ?_
    rw [h3]
    unfold membS
    rw [show m = to.length by omega]
def apartP (g : List (List Int)) (to : List Int) (a b : Int) : Prop := ∀ x ∈ membS to a, ∀ y ∈ membS to b, y ∉ atD g x
theorem apart_sp (g : List (List Int)) (to : List Int) (a b : Int) (hl : to.length ≤ 1000000) (hg : to.length ≤ g.length) (hgl : ∀ s, inN s g.length → (atD g s).length ≤ 1000000) : WP (r19_apart g to a b) fun r => (r = true ↔ apartP g to a b) := by
  unfold r19_apart
  refine WP.call (members_sp to a hl) ?_
  rintro _ rfl
  refine WP.call (members_sp to b hl) ?_
  rintro _ rfl
  have hla := membS_length to a
  have hlb := membS_length to b
  refine WP.loop (fun j => (0 ≤ j ∧ j ≤ (membS to a).length) ∧ ∀ t, 0 ≤ t → t < j → ∀ y ∈ membS to b, y ∉ atD g (atD (membS to a) t)) (fun j => (membS to a).length - j.toNat) ⟨⟨by omega, by omega⟩, fun t h1 h2 => by exfalso; omega⟩ ?_
  rintro again1 t ⟨⟨a1, a2⟩, a3⟩ ih1
  refine WP.bif (fun wh => ?_) (fun wh => ?_) <;> (try simp only [wpH, ne_eq] at wh)
  · have htl := wh
    have hm := atD_mem (l := membS to a) (i := t) ⟨a1, wh⟩
    obtain ⟨⟨q1, q2⟩, q3⟩ := mem_membS.1 hm
    refine WP.loop (fun j => (0 ≤ j ∧ j ≤ (membS to b).length) ∧ ∀ u, 0 ≤ u → u < j → atD (membS to b) u ∉ atD g (atD (membS to a) t)) (fun j => (membS to b).length - j.toNat) ⟨⟨by omega, by omega⟩, fun t h1 h2 => by exfalso; omega⟩ ?_
    rintro again2 u ⟨⟨b1, b2⟩, b3⟩ ih2
    refine WP.bif (fun wh => ?_) (fun wh => ?_) <;> (try simp only [wpH, ne_eq] at wh)
    · have hul := wh
      have hm2 := atD_mem (l := membS to b) (i := u) ⟨b1, wh⟩
      have hgl2 := hgl (atD (membS to a) t) ⟨q1, by omega⟩
      refine WP.chk ⟨by omega, by omega⟩ fun _ => ?_
      refine WP.chk ⟨by omega, by omega⟩ fun _ => ?_
      refine WP.chk ⟨by omega, by omega⟩ fun _ => ?_
      refine WP.call (has_sp _ _ (by omega)) ?_
      rintro _ rfl
      refine WP.bif (fun wh => ?_) (fun wh => ?_) <;> (try simp only [wpH, ne_eq] at wh)
      · exact WP.ret ⟨fun q => (by cases q), fun q => (q _ hm _ hm2 wh).elim⟩
      · refine WP.chk ⟨by omega, by omega⟩ fun _ => ?_
        refine ih2 _ ⟨⟨by omega, by omega⟩, fun v h1 h2 => ?_⟩ (by omega)
        by_cases hv : v = u
        · rw [hv]; exact wh
        · exact b3 v h1 (by omega)
    · refine WP.chk ⟨by omega, by omega⟩ fun _ => ?_
      refine ih1 _ ⟨⟨by omega, by omega⟩, fun v h1 h2 y hy => ?_⟩ (by omega)
      by_cases hv : v = t
      · rw [hv]
        obtain ⟨u', e1, e2, rfl⟩ := mem_atD hy
        exact b3 u' e1 (by omega)
      · exact a3 v h1 (by omega) y hy
  · refine WP.ret ⟨fun _ x hx y hy => ?_, fun _ => rfl⟩
    obtain ⟨t', e1, e2, rfl⟩ := mem_atD hx
    exact a3 t' e1 (by omega) y hy
section
variable {n i par : Int} {f : AFunc} {g : List (List Int)}
end
end Go.Proofs.Ytechhjednmnmpaa.Q
