/- Coalescing: what the classes are; the laws. -/
import Derived.Test.YtechhjednmnmpaaP19c
set_option linter.unusedVariables false
set_option linter.unusedSimpArgs false
namespace Go.Proofs.Ytechhjednmnmpaa.Q
/-! ### What the classes are -/
theorem clsL_ind {g : List (List Int)} {P : List Int → Prop} : ∀ {ms : List Arr2Int} {to : List Int}, P to → (∀ to m, m ∈ ms → P to → P (stepC g to m)) → P (clsL g ms to)
  | [], _, h, _ => h
  | m :: ms, to, h, hs => clsL_ind (ms := ms) (hs to m (by simp) h) fun to m' hm => hs to m' (List.mem_cons_of_mem _ hm)
/-- What holds of a move once it is done goes on to hold. -/
theorem clsL_each {g : List (List Int)} {P : List Int → Prop} {C : List Int → Arr2Int → Prop} : ∀ {ms D : List Arr2Int} {to : List Int}, P to → (∀ m ∈ D, C to m) → (∀ to m, m ∈ ms → P to → P (stepC g to m) ∧ C (stepC g to m) m ∧ ∀ m', m' ∈ D ∨ m' ∈ ms → C to m' → C (stepC g to m) m') → ∀ m, m ∈ D ∨ m ∈ ms → C (clsL g ms to) m
  | [], D, to, _, hD, _, m, hm => hm.elim (hD m) fun h => by cases h
  | m0 :: ms, D, to, hP, hD, hs, m, hm => by
    obtain ⟨h1, h2, h3⟩ := hs to m0 (by simp) hP
    refine clsL_each (ms := ms) (D := m0 :: D) (to := stepC g to m0) h1 (fun m' hm' => ?_) (fun to' m' hm' hP' => ?_) m ?_
    · rcases List.mem_cons.1 hm' with rfl | hm'
      · exact h2
      · exact h3 m' (.inl hm') (hD m' hm')
    · obtain ⟨q1, q2, q3⟩ := hs to' m' (List.mem_cons_of_mem _ hm') hP'
      refine ⟨q1, q2, fun m2 hm2 => q3 m2 ?_⟩
      rcases hm2 with hm2 | hm2
      · rcases List.mem_cons.1 hm2 with rfl | hm2
        · exact .inr (by simp)
        · exact .inl hm2
      · exact .inr (List.mem_cons_of_mem _ hm2)
    · rcases hm with hm | hm
      · exact .inl (List.mem_cons_of_mem _ hm)
      · rcases List.mem_cons.1 hm with rfl | hm
        · exact .inl (by simp)
        · exact .inr hm
theorem stepC_cases (g : List (List Int)) (to : List Int) (m : Arr2Int) : (stepC g to m = to ∧ (atD to m.e0 = atD to m.e1 ∨ ¬ apartP g to (atD to m.e0) (atD to m.e1))) ∨ (stepC g to m = to.map (mrg (atD to m.e0) (atD to m.e1)) ∧ atD to m.e0 ≠ atD to m.e1 ∧ apartP g to (atD to m.e0) (atD to m.e1)) := by
  unfold stepC
  split
  · rename_i h; exact .inl ⟨rfl, h⟩
  · rename_i h
    exact .inr ⟨rfl, fun q => h (.inl q), Classical.byContradiction fun q => h (.inr q)⟩
structure ClsA (f : AFunc) (g : List (List Int)) (to : List Int) : Prop where
  valid : ValidP f to
  le : ∀ s, inN s to.length → 0 ≤ atD to s ∧ atD to s ≤ s
  no : ∀ s t, inN s to.length → inN t to.length → atD to s = atD to t → t ∉ atD g s
section
variable {n i par : Int} {f : AFunc} {g : List (List Int)}
theorem ClsA.step {to : List Int} {m : Arr2Int} (h : ClsA f g to) (hm : inN m.e0 f.Slots.length ∧ inN m.e1 f.Slots.length ∧ (atD f.Slots m.e0).Size = (atD f.Slots m.e1).Size) (hsym : ∀ s t, inN s f.Slots.length → inN t f.Slots.length → t ∈ atD g s → s ∈ atD g t) : ClsA f g (stepC g to m) := by
  have hl := h.valid.1
  rcases stepC_cases g to m with ⟨e, _⟩ | ⟨e, hne, hap⟩
  · rw [e]; exact h
  rw [e]
  have m0 : inN m.e0 to.length := ⟨hm.1.1, by have := hm.1.2; omega⟩
  have m1 : inN m.e1 to.length := ⟨hm.2.1.1, by have := hm.2.1.2; omega⟩
  refine ⟨h.valid.merge (by simp) m0 m1 hm.2.2 fun s hs => atD_map hs, fun s hs => ?_, fun s t hs ht he => ?_⟩
  · rw [List.length_map] at hs
    rw [atD_map hs]
    have h1 := h.le s hs
    have h2 := h.le _ m0
    have h3 := h.le _ m1
    unfold mrg
    split <;> omega
  · rw [List.length_map] at hs ht
    rw [atD_map hs, atD_map ht] at he
    generalize hu : atD to m.e0 = u at *
    generalize hv : atD to m.e1 = v at *
    by_cases h1 : atD to s = atD to t
    · exact h.no s t hs ht h1
    have hstu : (atD to s = u ∧ atD to t = v) ∨ (atD to s = v ∧ atD to t = u) := by
      unfold mrg at he
      split at he <;> split at he <;> omega
    rcases hstu with ⟨q1, q2⟩ | ⟨q1, q2⟩
    · exact hap s (mem_membS.2 ⟨hs, q1⟩) t (mem_membS.2 ⟨ht, q2⟩)
    · intro hm'
      exact hap t (mem_membS.2 ⟨ht, q2⟩) s (mem_membS.2 ⟨hs, q1⟩) (hsym s t ⟨hs.1, by have := hs.2; omega⟩ ⟨ht.1, by have := ht.2; omega⟩ hm')
theorem clsA (hf : WfF n i par f) (hsym : ∀ s t, inN s f.Slots.length → inN t f.Slots.length → t ∈ atD g s → s ∈ atD g t) (hirr : ∀ s, inN s f.Slots.length → s ∉ atD g s) : ClsA f g (clsL g (movesL f f.Code.length) (idL f.Slots.length)) := by
  refine clsL_ind ⟨⟨idL_length _, fun s hs => ?_⟩, fun s hs => ?_, fun s t hs ht he => ?_⟩ fun to m hm h => h.step (movesL_ok hf hm) hsym
  · rw [idL_length] at hs ⊢
    rw [idL_at hs, idL_at hs]
    exact ⟨hs, rfl, rfl⟩
  · rw [idL_length] at hs
    rw [idL_at hs]; exact ⟨hs.1, Int.le_refl _⟩
  · rw [idL_length] at hs ht
    rw [idL_at hs, idL_at ht] at he
    rw [← he]; exact hirr s hs
def Clash (g : List (List Int)) (to : List Int) (m : Arr2Int) : Prop := atD to m.e0 = atD to m.e1 ∨ ∃ s t, inN s to.length ∧ inN t to.length ∧ atD to s = atD to m.e0 ∧ atD to t = atD to m.e1 ∧ t ∈ atD g s
theorem Clash.map {to : List Int} {m : Arr2Int} (φ : Int → Int) (h0 : inN m.e0 to.length) (h1 : inN m.e1 to.length) (h : Clash g to m) : Clash g (to.map φ) m := by
  unfold Clash
  rw [atD_map h0, atD_map h1, List.length_map]
  rcases h with h | ⟨s, t, a1, a2, a3, a4, a5⟩
  · exact .inl (by rw [h])
  · exact .inr ⟨s, t, a1, a2, by rw [atD_map a1, a3], by rw [atD_map a2, a4], a5⟩
theorem clsGreedy (hf : WfF n i par f) : ∀ m ∈ movesL f f.Code.length, Clash g (clsL g (movesL f f.Code.length) (idL f.Slots.length)) m := by
  have hok : ∀ m ∈ movesL f f.Code.length, _ := fun m hm => movesL_ok hf hm
  refine fun m hm => clsL_each (P := fun to => to.length = f.Slots.length) (D := []) (idL_length _) (fun m hm => by cases hm) (fun to m hm hP => ?_) m (.inr hm)
  obtain ⟨m0, m1, _⟩ := hok m hm
  have m0' : inN m.e0 to.length := ⟨m0.1, by have := m0.2; omega⟩
  have m1' : inN m.e1 to.length := ⟨m1.1, by have := m1.2; omega⟩
  refine ⟨by rw [stepC_length]; exact hP, ?_, fun m' hm' hc => ?_⟩
  · rcases stepC_cases g to m with ⟨e, h⟩ | ⟨e, hne, hap⟩
    · rw [e]
      refine h.imp id fun h => ?_
      unfold apartP at h
      simp only [Classical.not_forall, Classical.not_not] at h
      obtain ⟨x, hx, y, hy, hxy⟩ := h
      obtain ⟨hx1, hx2⟩ := mem_membS.1 hx
      obtain ⟨hy1, hy2⟩ := mem_membS.1 hy
      exact ⟨x, y, hx1, hy1, hx2, hy2, hxy⟩
    · rw [e]
      refine .inl ?_
      rw [atD_map m0', atD_map m1']
      unfold mrg
      rw [if_pos (.inl rfl), if_pos (.inr rfl)]
  · obtain ⟨q0, q1, _⟩ := hok m' (hm'.resolve_left fun h => by cases h)
    rcases stepC_cases g to m with ⟨e, _⟩ | ⟨e, _⟩ <;> rw [e]
    · exact hc
    · exact hc.map _ ⟨q0.1, by have := q0.2; omega⟩ ⟨q1.1, by have := q1.2; omega⟩
theorem clsMoved (hf : WfF n i par f) (hg : ∀ s, atD g s = []) : (∀ m ∈ movesL f f.Code.length, atD (clsL g (movesL f f.Code.length) (idL f.Slots.length)) m.e0 = atD (clsL g (movesL f f.Code.length) (idL f.Slots.length)) m.e1) ∧
    ∀ s, inN s f.Slots.length → (∀ m ∈ movesL f f.Code.length, m.e0 ≠ s ∧ m.e1 ≠ s) → atD (clsL g (movesL f f.Code.length) (idL f.Slots.length)) s = s ∧ ∀ t, inN t f.Slots.length → atD (clsL g (movesL f f.Code.length) (idL f.Slots.length)) t = s → t = s := by
  have hok : ∀ m ∈ movesL f f.Code.length, _ := fun m hm => movesL_ok hf hm
  have hap : ∀ to a b, apartP g to a b := fun to a b x _ y _ => by rw [hg]; simp
  constructor
  · refine fun m hm => clsL_each (P := fun to => to.length = f.Slots.length) (C := fun to m => atD to m.e0 = atD to m.e1) (D := []) (idL_length _) (fun m hm => by cases hm) (fun to m hm hP => ?_) m (.inr hm)
    obtain ⟨m0, m1, _⟩ := hok m hm
    have m0' : inN m.e0 to.length := ⟨m0.1, by have := m0.2; omega⟩
    have m1' : inN m.e1 to.length := ⟨m1.1, by have := m1.2; omega⟩
    refine ⟨by rw [stepC_length]; exact hP, ?_, fun m' hm' hc => ?_⟩
    · rcases stepC_cases g to m with ⟨e, h⟩ | ⟨e, hne, hap⟩
      · rw [e]; exact h.resolve_right fun q => q (hap _ _ _)
      · rw [e, atD_map m0', atD_map m1']
        unfold mrg
        rw [if_pos (.inl rfl), if_pos (.inr rfl)]
    · obtain ⟨q0, q1, _⟩ := hok m' (hm'.resolve_left fun h => by cases h)
      rcases stepC_cases g to m with ⟨e, _⟩ | ⟨e, _⟩ <;> rw [e]
      · exact hc
      · rw [atD_map ⟨q0.1, by have := q0.2; omega⟩, atD_map ⟨q1.1, by have := q1.2; omega⟩, hc]
  · intro s hs hno
    have := clsL_ind (g := g) (P := fun to => to.length = f.Slots.length ∧ atD to s = s ∧ ∀ t, inN t f.Slots.length → atD to t = s → t = s) (ms := movesL f f.Code.length) (to := idL f.Slots.length) ⟨idL_length _, idL_at hs, fun t ht he => by rw [idL_at ht] at he; exact he⟩ fun to m hm ⟨h1, h2, h3⟩ => by
      obtain ⟨m0, m1, _⟩ := hok m hm
      obtain ⟨n0, n1⟩ := hno m hm
      refine ⟨by rw [stepC_length]; exact h1, ?_⟩
      rcases stepC_cases g to m with ⟨e, _⟩ | ⟨e, _⟩ <;> rw [e]
      · exact ⟨h2, h3⟩
      · have hu : atD to m.e0 ≠ s := fun q => n0 (h3 _ m0 q)
        have hv : atD to m.e1 ≠ s := fun q => n1 (h3 _ m1 q)
        refine ⟨?_, fun t ht he => h3 t ht ?_⟩
        · rw [atD_map ⟨hs.1, by have := hs.2; omega⟩, h2]
          unfold mrg; rw [if_neg (by omega)]
        · rw [atD_map ⟨ht.1, by have := ht.2; omega⟩] at he
          unfold mrg at he
          split at he <;> omega
    exact this.2
end
theorem membS_one {to : List Int} {s : Int} (hs : inN s to.length) (h1 : atD to s = s) (h2 : ∀ t, inN t to.length → atD to t = s → t = s) : (membS to s).length = 1 := by
  have hall : ∀ x ∈ membS to s, x = s := fun x hx => by
    obtain ⟨q1, q2⟩ := mem_membS.1 hx
    exact h2 x q1 q2
  have hmem : s ∈ membS to s := mem_membS.2 ⟨hs, h1⟩
  have hnd : (membS to s).Nodup := by
    unfold membS
    refine List.Pairwise.map _ (fun a b h => ?_) (List.nodup_range.filter _)
    omega
  generalize membS to s = l at *
  match l, hall, hmem, hnd with
  | [], _, hm, _ => cases hm
  | [x], _, _, _ => rfl
  | x :: y :: r, ha, _, hn =>
    have e1 := ha x (by simp)
    have e2 := ha y (by simp)
    rw [e1, e2] at hn
    simp at hn
/-! ### The laws -/
theorem awake19c_sp : WP law19_awake (· = true) := by
  unfold law19_awake
  refine WP.call (cmembers_sp _ _ (by simp)) ?_
  rintro _ rfl
  exact WP.ret (by decide)
theorem scene19c_sp (cs : List Int) (h : isU8 cs) : WP (law19_scene cs) fun r => WfP r.1 ∧ inN r.2.1 r.1.Funcs.length ∧ ∃ out, Live (atD r.1.Funcs r.2.1) out ∧ GraphS (atD r.1.Funcs r.2.1).Slots.length r.2.2.1 (Edge (atD r.1.Funcs r.2.1) false out) := by
  unfold law19_scene
  refine WP.call (new_sp cs 250 h (by omega)) fun x1 h1 => ?_
  refine WP.call (program_sp x1 3 16 h1 (by omega) (by omega)) fun x2 ⟨h2, h3, h4⟩ => ?_
  have h5 := h3.len
  refine WP.call (next_sp _ _ h2 (by omega)) fun x3 ⟨h6, h7, h8, _⟩ => ?_
  have h9 := h8 (by omega)
  have hf := h3.func _ h7 h9
  refine WP.chk ⟨h7, h9⟩ fun _ => ?_
  refine WP.chk ⟨h7, h9⟩ fun _ => ?_
  refine WP.call (lives_sp _ h6 hf) fun x4 ⟨b1, b2⟩ => ?_
  refine WP.call (Graph18_sp hf b2) fun x5 ⟨b3, b4⟩ => ?_
  exact WP.ret ⟨h3, ⟨h7, h9⟩, _, b2, b4⟩
theorem GraphS.small {m : Nat} {g : List (List Int)} {P : Int → Int → Prop} (h : GraphS m g P) : ∀ s, inN s g.length → (atD g s).length ≤ 1000000 := fun s hs => by
  have := (h.set s ⟨hs.1, by have := hs.2; have := h.len; omega⟩).1.length
  omega
theorem pl_CoalesceClasses (cs : List Int) (h : isU8 cs) : WP (law19_CoalesceClasses cs) (· = true) := by
  unfold law19_CoalesceClasses
  refine WP.call awake19c_sp ?_
  rintro _ rfl
  refine WP.bif (fun wh => by cases wh) fun _ => ?_
  refine WP.call (scene19c_sp cs h) fun x2 ⟨hp, hi, out, hl, hG⟩ => ?_
  have hf := hp.func _ hi.1 hi.2
  have hsl := hf.slots
  have hgl := hG.len
  refine WP.chk hi fun _ => ?_
  generalize atD x2.1.Funcs x2.2.1 = f at *
  refine WP.call (cclasses_sp hf (by omega) hG.small) ?_
  rintro _ rfl
  refine WP.chk hi fun _ => ?_
  refine WP.call (rclasses_sp hf (by omega) hG.small) ?_
  rintro _ rfl
  refine WP.call (same_sp _ _ (by rw [clsL_length, idL_length]; omega)) ?_
  rintro _ rfl
  exact WP.ret (by simp)
theorem pl_CoalesceKeepsInterferingSlotsApart (cs : List Int) (h : isU8 cs) : WP (law19_CoalesceKeepsInterferingSlotsApart cs) (· = true) := by
  unfold law19_CoalesceKeepsInterferingSlotsApart
  refine WP.call awake19c_sp ?_
  rintro _ rfl
  refine WP.bif (fun wh => by cases wh) fun _ => ?_
  refine WP.call (scene19c_sp cs h) fun x2 ⟨hp, hi, out, hl, hG⟩ => ?_
  have hf := hp.func _ hi.1 hi.2
  have hsl := hf.slots
  have hgl := hG.len
  refine WP.chk hi fun _ => ?_
  generalize atD x2.1.Funcs x2.2.1 = f at *
  refine WP.call (cclasses_sp hf (by omega) hG.small) ?_
  rintro _ rfl
  have hA : ClsA f x2.2.2.1 (clsL x2.2.2.1 (movesL f f.Code.length) (idL f.Slots.length)) := clsA hf (fun s t hs ht q => ((hG.set t ht).2 s).2 (((hG.set s hs).2 t).1 q).symm) fun s hs q => (((hG.set s hs).2 s).1 q).ne rfl
  have htl : (clsL x2.2.2.1 (movesL f f.Code.length) (idL f.Slots.length)).length = f.Slots.length := by rw [clsL_length, idL_length]
  generalize clsL x2.2.2.1 (movesL f f.Code.length) (idL f.Slots.length) = to at *
  refine WP.call (cvalid_sp f to (by omega)) fun b hb => ?_
  refine WP.bif (fun wh => by rw [hb.2 hA.valid] at wh; cases wh) fun _ => ?_
  refine WP.bif (fun wh => by rw [htl] at wh; simp at wh) fun _ => ?_
  refine WP.loop (fun j => 0 ≤ j ∧ j ≤ to.length) (fun j => to.length - j.toNat) ⟨by omega, by omega⟩ ?_
  rintro again s ⟨a1, a2⟩ ih
  refine WP.bif (fun wh => ?_) (fun _ => WP.ret rfl) <;> (try simp only [wpH, ne_eq] at wh)
  have hs : inN s to.length := ⟨a1, wh⟩
  have hle := hA.le s hs
  have hs2 := wh
  refine WP.chk hs fun _ => WP.bif (fun wh => by simp at wh; omega) fun _ => WP.chk hs fun _ => WP.bif (fun wh => by simp at wh; omega) fun _ => ?_
  refine WP.loop (fun j => 0 ≤ j ∧ j ≤ s) (fun j => (s - j).toNat) ⟨by omega, a1⟩ ?_
  rintro again2 t ⟨b1, b2⟩ ih2
  refine WP.bif (fun wh => ?_) (fun wh => ?_) <;> (try simp only [wpH, ne_eq] at wh)
  · have ht : inN t to.length := ⟨b1, by omega⟩
    refine WP.chk hs fun _ => WP.chk ht fun _ => ?_
    refine WP.bif (fun wq => ?_) (fun _ => WP.chk ⟨by omega, by omega⟩ fun _ => ih2 _ ⟨by omega, by omega⟩ (by omega))
    have heq : atD to s = atD to t := by simpa using wq
    refine WP.chk ⟨a1, by omega⟩ fun _ => ?_
    have hgs := hG.small s ⟨a1, by omega⟩
    refine WP.call (has_sp _ _ (by omega)) ?_
    rintro _ rfl
    refine WP.bif (fun wq => absurd (of_decide_eq_true wq) (hA.no s t hs ht heq)) fun _ => ?_
    refine WP.chk ⟨a1, by omega⟩ fun _ => WP.chk ⟨b1, by omega⟩ fun _ => ?_
    have z1 := (hA.valid.2 s hs).2.1
    have z2 := (hA.valid.2 t ht).2.1
    rw [heq] at z1
    refine WP.bif (fun wq => by rw [← z1, ← z2] at wq; simp at wq) fun _ => ?_
    exact WP.chk ⟨by omega, by omega⟩ fun _ => ih2 _ ⟨by omega, by omega⟩ (by omega)
  · exact WP.chk ⟨by omega, by omega⟩ fun _ => ih _ ⟨by omega, by omega⟩ (by omega)
theorem pl_CoalesceIsGreedy (cs : List Int) (h : isU8 cs) : WP (law19_CoalesceIsGreedy cs) (· = true) := by
  unfold law19_CoalesceIsGreedy
  refine WP.call awake19c_sp ?_
  rintro _ rfl
  refine WP.bif (fun wh => by cases wh) fun _ => ?_
  refine WP.call (scene19c_sp cs h) fun x2 ⟨hp, hi, out, hl, hG⟩ => ?_
  have hf := hp.func _ hi.1 hi.2
  have hsl := hf.slots
  have hcl := hf.code
  have hgl := hG.len
  refine WP.chk hi fun _ => ?_
  generalize atD x2.1.Funcs x2.2.1 = f at *
  refine WP.call (cclasses_sp hf (by omega) hG.small) ?_
  rintro _ rfl
  have hC := clsGreedy (g := x2.2.2.1) hf
  have htl : (clsL x2.2.2.1 (movesL f f.Code.length) (idL f.Slots.length)).length = f.Slots.length := by rw [clsL_length, idL_length]
  have hok : ∀ m ∈ movesL f f.Code.length, _ := fun m hm => movesL_ok hf hm
  have hml := movesL_length f f.Code.length
  generalize clsL x2.2.2.1 (movesL f f.Code.length) (idL f.Slots.length) = to at *
  refine WP.bif (fun wh => by rw [htl] at wh; simp at wh) fun _ => ?_
  refine WP.call (rmoves_sp f (by omega)) ?_
  rintro _ rfl
  generalize movesL f f.Code.length = ms at *
  refine WP.loop (fun j => 0 ≤ j ∧ j ≤ ms.length) (fun j => ms.length - j.toNat) ⟨by omega, by omega⟩ ?_
  rintro again k ⟨a1, a2⟩ ih
  refine WP.bif (fun wh => ?_) (fun _ => WP.ret rfl) <;> (try simp only [wpH, ne_eq] at wh)
  have hk := wh
  have hmem := atD_mem (l := ms) (i := k) ⟨a1, wh⟩
  obtain ⟨m0, m1, _⟩ := hok _ hmem
  have hcl2 := hC _ hmem
  generalize atD ms k = m at *
  have m0' : inN m.e0 to.length := ⟨m0.1, by have := m0.2; omega⟩
  have m1' : inN m.e1 to.length := ⟨m1.1, by have := m1.2; omega⟩
  refine WP.chk ⟨a1, hk⟩ fun _ => WP.chk m0' fun _ => WP.chk ⟨a1, hk⟩ fun _ => WP.chk m1' fun _ => ?_
  refine WP.loop (fun j => (0 ≤ j.2 ∧ j.2 ≤ to.length) ∧ (atD to m.e0 = atD to m.e1 → j.1 = true) ∧ ∀ s t, 0 ≤ s → s < j.2 → inN t to.length → atD to s = atD to m.e0 → atD to t = atD to m.e1 → t ∈ atD x2.2.2.1 s → j.1 = true) (fun j => to.length - j.2.toNat) ⟨⟨by simp, by simp⟩, fun q => by simp [q], fun s t h1 h2 => by exfalso; dsimp only at h2; omega⟩ ?_
  rintro again2 ⟨cl, s⟩ ⟨⟨b1, b2⟩, b3, b4⟩ ih2
  dsimp only at b1 b2 b3 b4 ⊢
  refine WP.bif (fun wh => ?_) (fun wh => ?_) <;> (try simp only [wpH, ne_eq] at wh)
  · have hs : inN s to.length := ⟨b1, wh⟩
    refine WP.loop (fun j => (0 ≤ j.2 ∧ j.2 ≤ to.length) ∧ (cl = true → j.1 = true) ∧ ∀ t, 0 ≤ t → t < j.2 → atD to s = atD to m.e0 → atD to t = atD to m.e1 → t ∈ atD x2.2.2.1 s → j.1 = true) (fun j => to.length - j.2.toNat) ⟨⟨by simp, by simp⟩, id, fun t h1 h2 => by exfalso; dsimp only at h2; omega⟩ ?_
    rintro again3 ⟨c2, t⟩ ⟨⟨d1, d2⟩, d3, d4⟩ ih3
    dsimp only at d1 d2 d3 d4 ⊢
    refine WP.bif (fun wh => ?_) (fun wh => ?_) <;> (try simp only [wpH, ne_eq] at wh)
    · have ht : inN t to.length := ⟨d1, wh⟩
      refine WP.bif (fun wc => ?_) (fun wc => ?_)
      · exact WP.chk ⟨by omega, by omega⟩ fun _ => ih3 _ ⟨⟨by dsimp only; omega, by dsimp only; omega⟩, fun _ => rfl, fun _ _ _ _ _ _ => rfl⟩ (by dsimp only; omega)
      · have hcl0 : ¬ cl = true := fun q => by rw [d3 q] at wc; cases wc
        have hold : ∀ u, 0 ≤ u → u < t → atD to s = atD to m.e0 → atD to u = atD to m.e1 → u ∈ atD x2.2.2.1 s → False := fun u h1 h2 h3 h4 h5 => by rw [d4 u h1 h2 h3 h4 h5] at wc; cases wc
        refine WP.chk hs fun _ => WP.bif (fun we => ?_) (fun we => ?_) <;> (try simp only [wpH, ne_eq] at wh)
        · refine WP.chk ht fun _ => WP.bif (fun wf => ?_) (fun wf => ?_)
          · refine WP.chk ⟨b1, by omega⟩ fun _ => ?_
            have hgs := hG.small s ⟨b1, by omega⟩
            refine WP.call (has_sp _ _ (by omega)) ?_
            rintro _ rfl
            refine WP.chk ⟨by omega, by omega⟩ fun _ => ih3 _ ⟨⟨by dsimp only; omega, by dsimp only; omega⟩, fun q => absurd q hcl0, fun u h1 h2 h3 h4 h5 => ?_⟩ (by dsimp only; omega)
            by_cases hu : u = t
            · rw [hu] at h5; exact decide_eq_true h5
            · exact (hold u h1 (by dsimp only at h2; omega) h3 h4 h5).elim
          · refine WP.chk ⟨by omega, by omega⟩ fun _ => ih3 _ ⟨⟨by dsimp only; omega, by dsimp only; omega⟩, fun q => absurd q hcl0, fun u h1 h2 h3 h4 h5 => ?_⟩ (by dsimp only; omega)
            by_cases hu : u = t
            · rw [hu] at h4; exact absurd h4 (by simpa using wf)
            · exact (hold u h1 (by dsimp only at h2; omega) h3 h4 h5).elim
        · refine WP.chk ⟨by omega, by omega⟩ fun _ => ih3 _ ⟨⟨by dsimp only; omega, by dsimp only; omega⟩, fun q => absurd q hcl0, fun u h1 h2 h3 h4 h5 => ?_⟩ (by dsimp only; omega)
          exact absurd h3 (by simpa using we)
    · refine WP.chk ⟨by omega, by omega⟩ fun _ => ih2 _ ⟨⟨by dsimp only; omega, by dsimp only; omega⟩, fun q => d3 (b3 q), fun u t' h1 h2 h3 h4 h5 h6 => ?_⟩ (by dsimp only; omega)
      dsimp only at h2 ⊢
      by_cases hu : u = s
      · rw [hu] at h4 h6; exact d4 t' h3.1 (by have := h3.2; omega) h4 h5 h6
      · exact d3 (b4 u t' h1 (by omega) h3 h4 h5 h6)
  · have hcl3 : cl = true := by
      rcases hcl2 with q | ⟨s', t', h1, h2, h3, h4, h5⟩
      · exact b3 q
      · exact b4 s' t' h1.1 (by have := h1.2; omega) h2 h3 h4 h5
    refine WP.bif (fun wq => by rw [hcl3] at wq; cases wq) fun _ => ?_
    exact WP.chk ⟨by omega, by omega⟩ fun _ => ih _ ⟨by omega, by omega⟩ (by omega)
theorem pl_CoalesceJoinsOnlyMovedSlots (cs : List Int) (h : isU8 cs) : WP (law19_CoalesceJoinsOnlyMovedSlots cs) (· = true) := by
  unfold law19_CoalesceJoinsOnlyMovedSlots
  refine WP.call awake19c_sp ?_
  rintro _ rfl
  refine WP.bif (fun wh => by cases wh) fun _ => ?_
  refine WP.call (scene19c_sp cs h) fun x2 ⟨hp, hi, out, hl, hG⟩ => ?_
  have hf := hp.func _ hi.1 hi.2
  have hsl := hf.slots
  have hcl := hf.code
  refine WP.chk hi fun _ => ?_
  generalize atD x2.1.Funcs x2.2.1 = f at *
  refine WP.chk ⟨by omega, by omega⟩ fun _ => ?_
  have hnil : ∀ s : Int, atD (repD (f.Slots.length : Int) : List (List Int)) s = [] := fun s => by
    unfold atD repD
    rw [List.getD_eq_getElem?_getD, List.getElem?_replicate]
    split <;> rfl
  refine WP.call (cclasses_sp hf (by simp [length_repD]) (fun s _ => by rw [hnil]; simp)) ?_
  rintro _ rfl
  obtain ⟨hM, hU⟩ := clsMoved (g := repD (f.Slots.length : Int)) hf hnil
  have htl : (clsL (repD (f.Slots.length : Int)) (movesL f f.Code.length) (idL f.Slots.length)).length = f.Slots.length := by rw [clsL_length, idL_length]
  have hok : ∀ m ∈ movesL f f.Code.length, _ := fun m hm => movesL_ok hf hm
  have hml := movesL_length f f.Code.length
  generalize clsL (repD (f.Slots.length : Int)) (movesL f f.Code.length) (idL f.Slots.length) = to at *
  refine WP.bif (fun wh => by rw [htl] at wh; simp at wh) fun _ => ?_
  refine WP.call (rmoves_sp f (by omega)) ?_
  rintro _ rfl
  generalize movesL f f.Code.length = ms at *
  refine WP.loop (fun j => 0 ≤ j ∧ j ≤ to.length) (fun j => to.length - j.toNat) ⟨by omega, by omega⟩ ?_
  rintro again s ⟨a1, a2⟩ ih
  refine WP.bif (fun wh => ?_) (fun _ => WP.ret rfl) <;> (try simp only [wpH, ne_eq] at wh)
  have hs : inN s to.length := ⟨a1, wh⟩
  have hsl2 := wh
  refine WP.loop (fun j => (0 ≤ j.2 ∧ j.2 ≤ ms.length) ∧ (j.1 = true ↔ ∃ k, 0 ≤ k ∧ k < j.2 ∧ ((atD ms k).e0 = s ∨ (atD ms k).e1 = s))) (fun j => ms.length - j.2.toNat) ⟨⟨by simp, by simp⟩, ⟨fun q => (by cases q), fun ⟨k, h1, h2, _⟩ => by exfalso; dsimp only at h2; omega⟩⟩ ?_
  rintro again2 ⟨mv, k⟩ ⟨⟨b1, b2⟩, b3⟩ ih2
  dsimp only at b1 b2 b3 ⊢
  refine WP.bif (fun wh => ?_) (fun wh => ?_) <;> (try simp only [wpH, ne_eq] at wh)
  · have hk := wh
    have hmem := atD_mem (l := ms) (i := k) ⟨b1, wh⟩
    obtain ⟨m0, m1, _⟩ := hok _ hmem
    have heq := hM _ hmem
    have m0' : inN (atD ms k).e0 to.length := ⟨m0.1, by have := m0.2; omega⟩
    have m1' : inN (atD ms k).e1 to.length := ⟨m1.1, by have := m1.2; omega⟩
    refine WP.join (fun b => (b = true ↔ (mv = true ∨ (atD ms k).e0 = s ∨ (atD ms k).e1 = s))) ?_ ?_
    · intro b hb
      refine WP.chk ⟨b1, hk⟩ fun _ => WP.chk m0' fun _ => WP.chk ⟨b1, hk⟩ fun _ => WP.chk m1' fun _ => ?_
      refine WP.bif (fun wq => by rw [heq] at wq; simp at wq) fun _ => ?_
      refine WP.chk ⟨by omega, by omega⟩ fun _ => ih2 _ ⟨⟨by dsimp only; omega, by dsimp only; omega⟩, ?_⟩ (by dsimp only; omega)
      dsimp only
      rw [hb, b3]
      constructor
      · rintro (⟨u, h1, h2, h3⟩ | h)
        · exact ⟨u, h1, by omega, h3⟩
        · exact ⟨k, b1, by omega, h⟩
      · rintro ⟨u, h1, h2, h3⟩
        by_cases hu : u = k
        · rw [hu] at h3; exact .inr h3
        · exact .inl ⟨u, h1, by omega, h3⟩
    · intro k2 hk2
      refine WP.bif (fun wq => hk2 _ ⟨fun _ => .inl wq, fun _ => rfl⟩) fun wq => ?_
      refine WP.chk ⟨b1, hk⟩ fun _ => WP.bif (fun we => hk2 _ ⟨fun _ => .inr (.inl (by simpa using we)), fun _ => rfl⟩) fun we => ?_
      refine WP.chk ⟨b1, hk⟩ fun _ => hk2 _ ?_
      rw [decide_eq_true_eq]
      exact ⟨fun q => .inr (.inr q), fun q => q.elim (fun q => by rw [q] at wq; cases wq) fun q => q.elim (fun q => absurd q (by simpa using we)) id⟩
  · refine WP.bif (fun wq => ?_) (fun _ => WP.chk ⟨by omega, by omega⟩ fun _ => ih _ ⟨by omega, by omega⟩ (by omega))
    have hmv : ¬ mv = true := fun q => by rw [q] at wq; cases wq
    obtain ⟨u1, u2⟩ := hU s ⟨a1, by omega⟩ fun m hm => by
      obtain ⟨u, h1, h2, rfl⟩ := mem_atD hm
      exact ⟨fun q => hmv (b3.2 ⟨u, h1, by omega, .inl q⟩), fun q => hmv (b3.2 ⟨u, h1, by omega, .inr q⟩)⟩
    refine WP.chk hs fun _ => WP.bif (fun wr => by rw [u1] at wr; simp at wr) fun _ => ?_
    refine WP.call (cmembers_sp to s (by omega)) ?_
    rintro _ rfl
    refine WP.bif (fun wr => ?_) fun _ => WP.chk ⟨by omega, by omega⟩ fun _ => ih _ ⟨by omega, by omega⟩ (by omega)
    rw [membS_one hs u1 fun t ht => u2 t ⟨ht.1, by have := ht.2; omega⟩] at wr
    simp at wr
end Go.Proofs.Ytechhjednmnmpaa.Q
