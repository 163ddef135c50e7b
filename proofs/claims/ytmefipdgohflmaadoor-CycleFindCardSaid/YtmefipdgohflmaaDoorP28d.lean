/- Chapter 28: the lengths of ways. -/
import Derived.Test.YtmefipdgohflmaaDoorP28c
set_option linter.unusedVariables false
set_option linter.unusedSimpArgs false
namespace Go.Proofs.YtmefipdgohflmaaDoor.Q
def levR (l row : List Int) : Int := row.foldl (fun m b => max m (atD l b + 1)) 0
theorem levR_snoc (l r : List Int) (b : Int) : levR l (r ++ [b]) = max (levR l r) (atD l b + 1) := by unfold levR; rw [List.foldl_append]; rfl
theorem snoc_ind {α : Type} {P : List α → Prop} (h0 : P []) (h1 : ∀ l x, P l → P (l ++ [x])) : ∀ l, P l := fun l => by
  have : ∀ (n : Nat) (l : List α), l.length = n → P l := fun n => by
    induction n with
    | zero => intro l hl; rw [List.length_eq_zero_iff.1 hl]; exact h0
    | succ n ih =>
      intro l hl
      have hne : l ≠ [] := fun e => by rw [e] at hl; simp at hl
      have := h1 l.dropLast (l.getLast hne) (ih _ (by rw [List.length_dropLast]; omega))
      rwa [List.dropLast_concat_getLast] at this
  exact this _ l rfl
theorem levR_congr {l l' : List Int} : ∀ {r : List Int}, (∀ b ∈ r, atD l b = atD l' b) → levR l r = levR l' r := fun {r} => by
  refine snoc_ind (P := fun r => (∀ b ∈ r, atD l b = atD l' b) → levR l r = levR l' r) (fun _ => rfl) (fun r x ih h => ?_) r
  rw [levR_snoc, levR_snoc, ih fun b hb => h b (List.mem_append_left _ hb), h x (List.mem_append_right _ List.mem_cons_self)]
theorem levR_le {l : List Int} {c : Int} (hc : 0 ≤ c) : ∀ {r : List Int}, (∀ b ∈ r, atD l b + 1 ≤ c) → 0 ≤ levR l r ∧ levR l r ≤ c := fun {r} => by
  refine snoc_ind (P := fun r => (∀ b ∈ r, atD l b + 1 ≤ c) → 0 ≤ levR l r ∧ levR l r ≤ c) (fun _ => ⟨Int.le_refl _, hc⟩) (fun r x ih h => ?_) r
  have h1 := ih fun b hb => h b (List.mem_append_left _ hb)
  have h2 := h x (List.mem_append_right _ List.mem_cons_self)
  rw [levR_snoc]
  omega
structure LevP (g : List (List Int)) (l : List Int) : Prop where
  len : l.length = g.length
  val : ∀ a, inN a g.length → atD l a = levR l (atD g a)
  rng : ∀ a, inN a g.length → 0 ≤ atD l a ∧ atD l a ≤ 80
theorem LevP.uniq {g : List (List Int)} (hg : GrP g) {o l l' : List Int} (ho : TopoP g o) (h : LevP g l) (h' : LevP g l') : l = l' := by
  have key : ∀ (n : Nat) (a : Int), inN a g.length → o.idxOf a < n → atD l a = atD l' a := fun n => by
    induction n with
    | zero => intro a _ h; omega
    | succ n ih =>
      intro a ha hn
      rw [h.val a ha, h'.val a ha]
      exact levR_congr fun b hb => ih b (hg.rng a ha b hb) (by have := ho.idx ha hb; omega)
  refine ext27 (by rw [h.len, h'.len]) fun k hk => ?_
  rw [h.len] at hk
  exact key _ k hk (Nat.lt_succ_self _)
theorem levels28r_sp (g : List (List Int)) (hg : GrP g) (hac : Acyc g) : WP (r28_Levels g) fun r => LevP g r.1 ∧ r.2 = 0 := by
  have hlen := hg.len
  obtain ⟨he, ho⟩ := orderS_ok hg hac
  have hol := ho.len
  unfold r28_Levels
  refine WP.call (order28r_sp g hg) ?_
  rintro _ rfl
  refine WP.bif (fun wh => absurd wh (by rw [he]; decide)) (fun _ => ?_)
  generalize (orderS g).1 = o at ho hol ⊢
  refine WP.chk ⟨by omega, by omega⟩ fun _ => ?_
  refine WP.loop (fun z => 0 ≤ z.1 ∧ z.1 ≤ o.length ∧ z.2.length = g.length ∧ (∀ a, inN a g.length → 0 ≤ atD z.2 a ∧ atD z.2 a ≤ z.1) ∧ (∀ a, inN a g.length → a ∉ o.take z.1.toNat → atD z.2 a = 0) ∧ ∀ a ∈ o.take z.1.toNat, atD z.2 a = levR z.2 (atD g a)) (fun z => o.length - z.1.toNat) ⟨Int.le_refl _, by dsimp only; omega, by dsimp only; rw [length_repD]; omega, fun a ha => by dsimp only; rw [rep27]; exact ⟨Int.le_refl _, Int.le_refl _⟩, fun a ha _ => by dsimp only; rw [rep27]; rfl, fun a ha => by simp at ha⟩ ?_
  rintro again ⟨i, out⟩ ⟨h1, h2, h3, h4, h5, h6⟩ ih
  dsimp only at h1 h2 h3 h4 h5 h6 ih ⊢
  refine WP.bif (fun wh => ?_) (fun wh => ?_) <;> (try simp only [wpH, ne_eq] at wh)
  · have hi : inN i o.length := ⟨h1, wh⟩
    have hto := take_atD hi
    have hbeh := ho.behind i hi
    have hf := ho.rng _ (atD_mem hi)
    have hfn : atD o i ∉ o.take i.toNat := fun hm => by
      have := ho.nodup.sublist (List.take_sublist (i + 1).toNat o)
      rw [hto, List.nodup_append] at this
      exact this.2.2 _ hm _ List.mem_cons_self rfl
    generalize hF : atD o i = f at hto hbeh hf hfn ⊢
    have hrl := (hg.row f hf).length
    have hfo : inN f out.length := by rw [h3]; exact hf
    refine WP.chk hi fun _ => ?_
    refine WP.loop (fun z => 0 ≤ z.1 ∧ z.1 ≤ (atD g f).length ∧ z.2.length = g.length ∧ (∀ x, inN x g.length → x ≠ f → atD z.2 x = atD out x) ∧ atD z.2 f = levR out ((atD g f).take z.1.toNat)) (fun z => (atD g f).length - z.1.toNat) ⟨Int.le_refl _, by dsimp only; omega, h3, fun _ _ _ => rfl, by dsimp only; rw [h5 f hf hfn]; rfl⟩ ?_
    rintro again2 ⟨k, out2⟩ ⟨g1, g2, g3, g4, g5⟩ ih2
    dsimp only at g1 g2 g3 g4 g5 ih2 ⊢
    have hfo2 : inN f out2.length := by rw [g3]; exact hf
    refine WP.chk hf fun _ => ?_
    refine WP.bif (fun wh => ?_) (fun wh => ?_) <;> (try simp only [wpH, ne_eq] at wh)
    · have hk : inN k (atD g f).length := ⟨g1, wh⟩
      have htk := take_atD hk
      have hj := hg.rng f hf _ (atD_mem hk)
      have hjt := hbeh _ (atD_mem hk)
      have hjf : atD (atD g f) k ≠ f := fun e => hfn (by rw [e] at hjt; exact hjt)
      generalize atD (atD g f) k = j at htk hj hjt hjf ⊢
      have hjo2 : inN j out2.length := by rw [g3]; exact hj
      have hjv := h4 j hj
      rw [g4 j hj hjf]
      refine WP.chk hfo2 fun _ => WP.chk hf fun _ => WP.chk hk fun _ => WP.chk hjo2 fun _ => WP.chk ⟨by omega, by omega⟩ fun _ => WP.chk hfo2 fun _ => WP.chk ⟨by omega, by omega⟩ fun _ => ?_
      refine ih2 _ ⟨by dsimp only; omega, by dsimp only; omega, by dsimp only; rw [length_setD]; exact g3, fun x hx hne => ?_, ?_⟩ (by dsimp only; omega)
      · dsimp only
        rw [atD_setD hfo2 hx.1, if_neg hne]
        exact g4 x hx hne
      · dsimp only
        rw [atD_setD hfo2 hf.1, if_pos rfl, htk, levR_snoc, g5]
    · rw [take_all (by omega)] at g5
      have hv := levR_le (l := out) (c := i + 1) (by omega) (r := atD g f) fun b hb => by have := h4 b (hg.rng f hf b hb); omega
      refine WP.chk ⟨by omega, by omega⟩ fun _ => ?_
      refine ih _ ⟨by dsimp only; omega, by dsimp only; omega, g3, fun a ha => ?_, fun a ha hn => ?_, fun a ha => ?_⟩ (by dsimp only; omega)
      · dsimp only
        by_cases e : a = f
        · rw [e, g5]; exact hv
        · rw [g4 a ha e]; have := h4 a ha; omega
      · dsimp only at hn ⊢
        rw [hto] at hn
        have e : a ≠ f := fun e => hn (List.mem_append_right _ (by rw [e]; exact List.mem_cons_self))
        rw [g4 a ha e]
        exact h5 a ha fun h => hn (List.mem_append_left _ h)
      · dsimp only at ha ⊢
        rw [hto] at ha
        have hsame : ∀ b, inN b g.length → b ∈ o.take i.toNat → atD out2 b = atD out b := fun b hb hm => g4 b hb fun e => hfn (by rw [← e]; exact hm)
        rcases List.mem_append.1 ha with ha | ha
        · have han := ho.rng a (List.mem_of_mem_take ha)
          rw [hsame a han ha, h6 a ha]
          refine (levR_congr fun b hb => ?_).symm
          have hbn := hg.rng a han b hb
          refine hsame b hbn ?_
          -- b stands before a
          obtain ⟨k, hk, hk2⟩ := List.getElem_of_mem ha
          rw [List.length_take] at hk
          rw [List.getElem_take] at hk2
          have := ho.behind (k : Int) ⟨by omega, by omega⟩ b (by rw [atD_nat (by omega), hk2]; exact hb)
          rw [Int.toNat_natCast] at this
          exact (List.take_subset_take_left _ (by omega : k ≤ i.toNat)) this
        · rw [one_mem ha, g5]
          exact (levR_congr fun b hb => hsame b (hg.rng f hf b hb) (hbeh b hb)).symm
  · rw [take_all (by omega)] at h6
    refine WP.ret ⟨⟨h3, fun a ha => h6 a (ho.mem ha), fun a ha => ?_⟩, rfl⟩
    have := h4 a ha
    exact ⟨this.1, by dsimp only; omega⟩
theorem countP_lt {p q : Nat → Bool} : ∀ {l : List Nat} (_ : ∀ x ∈ l, p x = true → q x = true) {a : Nat} (_ : a ∈ l) (_ : p a = false) (_ : q a = true), l.countP p < l.countP q
  | x :: r, h, a, ha, hp, hq => by
    rw [List.countP_cons, List.countP_cons]
    have hm : r.countP p ≤ r.countP q := List.countP_mono_left fun x hx => h x (List.mem_cons_of_mem _ hx)
    rcases List.mem_cons.1 ha with rfl | ha
    · rw [hp, hq]; simp; omega
    · have := countP_lt (fun x hx => h x (List.mem_cons_of_mem _ hx)) ha hp hq
      have hx := h x List.mem_cons_self
      cases hpx : p x with
      | false => simp; omega
      | true => rw [hx hpx]; simp; omega
/-- Not known, and not on the stack. -/
def offK (known : List Bool) (fns : List Int) (k : Nat) : Bool := !(atD known (k : Int)) && !decide ((k : Int) ∈ fns)
theorem offK_iff {known : List Bool} {fns : List Int} {k : Nat} : offK known fns k = true ↔ atD known (k : Int) = false ∧ (k : Int) ∉ fns := by
  unfold offK
  rw [Bool.and_eq_true, Bool.not_eq_true', Bool.not_eq_true', decide_eq_false_iff_not]
def restSum (st : List Cycle_frame) : Nat := (st.map fun fr => 2 * fr.rest.length + 1).sum
structure LvP (g : List (List Int)) (L : List Int) (i : Int) (level : List Int) (known : List Bool) (st : List Cycle_frame) : Prop where
  len : level.length = g.length
  klen : known.length = g.length
  kn : ∀ x, inN x g.length → atD known x = true → atD level x = atD L x
  un : ∀ x, inN x g.length → atD known x = false → (∀ fr ∈ st, fr.function ≠ x) → atD level x = 0
  fr : ∀ fr ∈ st, inN fr.function g.length ∧ ∃ p, p ++ fr.rest = atD g fr.function ∧ (atD known fr.function = false → atD level fr.function = levR L p)
  nodup : (st.map (·.function)).Nodup
  chain : (st.map (·.function)).Pairwise (Way g)
  ini : (∃ fr ∈ st, fr.function = i) ∨ atD known i = true
  old : ∀ x, inN x g.length → x < i → atD known x = true
theorem snoc_facts {α : Type} [Inhabited α] (st : List α) (top : α) : atD (st ++ [top]) ((((st ++ [top]).length : Nat) : Int) - 1) = top ∧ sliceD (st ++ [top]) 0 ((((st ++ [top]).length : Nat) : Int) - 1) = st ∧ ∀ x, setD (st ++ [top]) ((((st ++ [top]).length : Nat) : Int) - 1) x = st ++ [x] := by
  have e : ((((st ++ [top]).length : Nat) : Int) - 1) = (st.length : Int) := by simp
  rw [e]
  refine ⟨atD_last rfl, ?_, fun x => ?_⟩
  · unfold sliceD; simp
  · unfold setD; simp
theorem LvP.pop {g : List (List Int)} {L : List Int} {i : Int} {level : List Int} {known : List Bool} {st : List Cycle_frame} {top : Cycle_frame} (hL : LevP g L) (h : LvP g L i level known (st ++ [top])) (hr : top.rest = [] ∨ atD known top.function = true) :
    inN top.function g.length ∧ LvP g L i level (setD known top.function true) st ∧ (List.range g.length).countP (offK (setD known top.function true) (st.map (·.function))) ≤ (List.range g.length).countP (offK known ((st ++ [top]).map (·.function))) := by
  obtain ⟨hf, p, hp1, hp2⟩ := h.fr top (List.mem_append_right _ List.mem_cons_self)
  have hfk : inN top.function known.length := by rw [h.klen]; exact hf
  have hset : ∀ x, 0 ≤ x → atD (setD known top.function true) x = if x = top.function then true else atD known x := fun x hx => atD_setD hfk hx
  have hnd := h.nodup
  rw [List.map_append] at hnd
  have hne : ∀ fr ∈ st, fr.function ≠ top.function := fun fr hfr e => (List.nodup_append.1 hnd).2.2 _ (List.mem_map_of_mem hfr) _ (List.mem_map_of_mem List.mem_cons_self) e
  have hlev : atD level top.function = atD L top.function := by
    cases hk : atD known top.function with
    | true => exact h.kn _ hf hk
    | false =>
      have hre := hr.resolve_right (by rw [hk]; decide)
      rw [hp2 hk, hL.val _ hf, ← hp1, hre, List.append_nil]
  refine ⟨hf, ⟨h.len, by rw [length_setD]; exact h.klen, fun x hx hk => ?_, fun x hx hk hn => ?_, fun fr hfr => ?_, (List.nodup_append.1 hnd).1, ?_, ?_, fun x hx hlt => ?_⟩, ?_⟩
  · rw [hset x hx.1] at hk
    by_cases e : x = top.function
    · rw [e]; exact hlev
    · rw [if_neg e] at hk; exact h.kn x hx hk
  · rw [hset x hx.1] at hk
    by_cases e : x = top.function
    · rw [if_pos e] at hk; cases hk
    · rw [if_neg e] at hk
      refine h.un x hx hk fun fr hfr => ?_
      rcases List.mem_append.1 hfr with hfr | hfr
      · exact hn fr hfr
      · rw [one_mem hfr]; exact fun e2 => e e2.symm
  · obtain ⟨q1, q, q2, q3⟩ := h.fr fr (List.mem_append_left _ hfr)
    refine ⟨q1, q, q2, fun hk => q3 ?_⟩
    rw [hset _ q1.1, if_neg (hne fr hfr)] at hk
    exact hk
  · have := h.chain
    rw [List.map_append] at this
    exact (List.pairwise_append.1 this).1
  · rcases h.ini with ⟨fr, hfr, e⟩ | hk
    · rcases List.mem_append.1 hfr with hfr | hfr
      · exact .inl ⟨fr, hfr, e⟩
      · rw [one_mem hfr] at e
        refine .inr ?_
        rw [← e, hset _ hf.1, if_pos rfl]
    · refine .inr ?_
      by_cases e : i = top.function
      · rw [e, hset _ hf.1, if_pos rfl]
      · by_cases h0 : 0 ≤ i
        · rw [hset i h0, if_neg e]; exact hk
        · unfold atD setD at *
          rw [List.getD_eq_getElem?_getD] at hk ⊢
          rw [List.getElem?_set]
          split
          · rw [if_pos (by have := hfk.1; have := hfk.2; omega)]; rfl
          · exact hk
  · rw [hset x hx.1]
    by_cases e : x = top.function
    · rw [if_pos e]
    · rw [if_neg e]; exact h.old x hx hlt
  · refine List.countP_mono_left fun k hk hp => ?_
    obtain ⟨q1, q2⟩ := offK_iff.1 hp
    rw [hset _ (by omega)] at q1
    by_cases e : (k : Int) = top.function
    · rw [if_pos e] at q1; cases q1
    · rw [if_neg e] at q1
      refine offK_iff.2 ⟨q1, fun hm => ?_⟩
      rw [List.map_append] at hm
      rcases List.mem_append.1 hm with hm | hm
      · exact q2 hm
      · exact e (by simpa using hm)
theorem LvP.push {g : List (List Int)} (hg : GrP g) (hac : Acyc g) {L : List Int} {i : Int} {level : List Int} {known : List Bool} {st : List Cycle_frame} {top : Cycle_frame} (h : LvP g L i level known (st ++ [top])) {j : Int} {r : List Int} (hr : top.rest = j :: r) (hk : atD known j = false) :
    inN j g.length ∧ (st ++ [top]).length ≤ g.length ∧ LvP g L i level known (st ++ [top] ++ [⟨j, atD g j⟩]) ∧ (List.range g.length).countP (offK known ((st ++ [top] ++ [(⟨j, atD g j⟩ : Cycle_frame)]).map (·.function))) + 1 ≤ (List.range g.length).countP (offK known ((st ++ [top]).map (·.function))) := by
  obtain ⟨hf, p, hp1, hp2⟩ := h.fr top (List.mem_append_right _ List.mem_cons_self)
  have hjm : j ∈ atD g top.function := by rw [← hp1, hr]; exact List.mem_append_right _ List.mem_cons_self
  have hj := hg.rng _ hf j hjm
  have hways : ∀ x ∈ (st ++ [top]).map (·.function), Way g x top.function := fun x hx => by
    have hc := h.chain
    rw [List.map_append] at hc hx
    rcases List.mem_append.1 hx with hx | hx
    · exact (List.pairwise_append.1 hc).2.2 x hx _ List.mem_cons_self
    · have : x = top.function := by simpa using hx
      rw [this]; exact .refl
  have hjn : j ∉ (st ++ [top]).map (·.function) := fun hm => hac _ hf j hjm (hways j hm)
  refine ⟨hj, ?_, ⟨h.len, h.klen, h.kn, fun x hx hk' hn => h.un x hx hk' fun fr hfr => hn fr (List.mem_append_left _ hfr), fun fr hfr => ?_, ?_, ?_, ?_, h.old⟩, ?_⟩
  · have := rangeI_length h.nodup fun y hy => by
      obtain ⟨fr, hfr, rfl⟩ := List.mem_map.1 hy
      exact (h.fr fr hfr).1
    simpa using this
  · rcases List.mem_append.1 hfr with hfr | hfr
    · exact h.fr fr hfr
    · rw [one_mem hfr]
      refine ⟨hj, [], rfl, fun hk' => ?_⟩
      show atD level j = 0
      exact h.un j hj hk fun fr' hfr' e => hjn (by rw [← e]; exact List.mem_map_of_mem hfr')
  · rw [List.map_append]
    refine List.nodup_append.2 ⟨h.nodup, by simp, fun a ha b hb e => hjn ?_⟩
    have : b = j := by simpa using hb
    rw [← this, ← e]; exact ha
  · rw [List.map_append]
    refine List.pairwise_append.2 ⟨h.chain, by simp, fun a ha b hb => ?_⟩
    have : b = j := by simpa using hb
    rw [this]
    exact (hways a ha).step hjm
  · rcases h.ini with ⟨fr, hfr, e⟩ | hk'
    · exact .inl ⟨fr, List.mem_append_left _ hfr, e⟩
    · exact .inr hk'
  · refine countP_lt (fun k hk' hp => ?_) (a := j.toNat) (List.mem_range.2 (by have := hj.1; have := hj.2; omega)) ?_ ?_
    · obtain ⟨q1, q2⟩ := offK_iff.1 hp
      exact offK_iff.2 ⟨q1, fun hm => q2 (by rw [List.map_append]; exact List.mem_append_left _ hm)⟩
    · cases hb : offK known ((st ++ [top] ++ [(⟨j, atD g j⟩ : Cycle_frame)]).map (·.function)) j.toNat with
      | false => rfl
      | true =>
        have := (offK_iff.1 hb).2
        rw [Int.toNat_of_nonneg hj.1] at this
        exact absurd (by rw [List.map_append]; exact List.mem_append_right _ (by simp)) this
    · refine offK_iff.2 ?_
      rw [Int.toNat_of_nonneg hj.1]
      exact ⟨hk, hjn⟩
theorem LvP.go {g : List (List Int)} {L : List Int} {i : Int} {level : List Int} {known : List Bool} {st : List Cycle_frame} {top : Cycle_frame} (h : LvP g L i level known (st ++ [top])) {j : Int} {r : List Int} (hr : top.rest = j :: r) (hj : inN j g.length) (hkt : atD known top.function = false) (hk : atD known j = true) :
    LvP g L i (setD level top.function (max (atD level top.function) (atD level j + 1))) known (st ++ [⟨top.function, r⟩]) := by
  obtain ⟨hf, p, hp1, hp2⟩ := h.fr top (List.mem_append_right _ List.mem_cons_self)
  have hfl : inN top.function level.length := by rw [h.len]; exact hf
  have hset : ∀ x v, 0 ≤ x → atD (setD level top.function v) x = if x = top.function then v else atD level x := fun x v hx => atD_setD hfl hx
  have hnd := h.nodup
  rw [List.map_append] at hnd
  have hne : ∀ fr ∈ st, fr.function ≠ top.function := fun fr hfr e => (List.nodup_append.1 hnd).2.2 _ (List.mem_map_of_mem hfr) _ (List.mem_map_of_mem List.mem_cons_self) e
  have hmap : (st ++ [(⟨top.function, r⟩ : Cycle_frame)]).map (·.function) = (st ++ [top]).map (·.function) := by simp
  refine ⟨by rw [length_setD]; exact h.len, h.klen, fun x hx hk' => ?_, fun x hx hk' hn => ?_, fun fr hfr => ?_, by rw [hmap]; exact h.nodup, by rw [hmap]; exact h.chain, ?_, h.old⟩
  · rw [hset x _ hx.1, if_neg (fun e => by rw [e, hkt] at hk'; cases hk')]
    exact h.kn x hx hk'
  · have e : x ≠ top.function := fun e => hn _ (List.mem_append_right _ List.mem_cons_self) e.symm
    rw [hset x _ hx.1, if_neg e]
    refine h.un x hx hk' fun fr hfr => ?_
    rcases List.mem_append.1 hfr with hfr | hfr
    · exact hn fr (List.mem_append_left _ hfr)
    · rw [one_mem hfr]; exact fun e2 => e e2.symm
  · rcases List.mem_append.1 hfr with hfr | hfr
    · obtain ⟨q1, q, q2, q3⟩ := h.fr fr (List.mem_append_left _ hfr)
      refine ⟨q1, q, q2, fun hk' => ?_⟩
      rw [hset _ _ q1.1, if_neg (hne fr hfr)]
      exact q3 hk'
    · rw [one_mem hfr]
      refine ⟨hf, p ++ [j], by show p ++ [j] ++ r = _; rw [← hp1, hr]; simp, fun hk' => ?_⟩
      show atD (setD level top.function _) top.function = _
      rw [hset _ _ hf.1, if_pos rfl, levR_snoc, hp2 hkt, h.kn j hj hk]
  · rcases h.ini with ⟨fr, hfr, e⟩ | hk'
    · rcases List.mem_append.1 hfr with hfr | hfr
      · exact .inl ⟨fr, List.mem_append_left _ hfr, e⟩
      · rw [one_mem hfr] at e
        exact .inl ⟨_, List.mem_append_right _ List.mem_cons_self, e⟩
    · exact .inr hk'
theorem levels_sp (g : List (List Int)) (hg : GrP g) (hac : Acyc g) {L : List Int} (hL : LevP g L) : WP (cycle_Levels g) (· = (L, 0)) := by
  have hlen := hg.len
  unfold cycle_Levels
  refine WP.call (find28_sp g hg) ?_
  rintro ⟨l0, b0⟩ hF
  dsimp only at hF ⊢
  have hb := (hF.acyc hg).2 hac
  subst hb
  refine WP.bif (fun wh => by cases wh) (fun _ => ?_)
  refine WP.chk ⟨by omega, by omega⟩ fun _ => WP.chk ⟨by omega, by omega⟩ fun _ => ?_
  refine WP.loop (fun z => 0 ≤ z.1 ∧ z.1 ≤ g.length ∧ z.2.1.length = g.length ∧ z.2.2.length = g.length ∧ (∀ x, inN x g.length → atD z.2.2 x = true → atD z.2.1 x = atD L x) ∧ (∀ x, inN x g.length → atD z.2.2 x = false → atD z.2.1 x = 0) ∧ ∀ x, inN x g.length → x < z.1 → atD z.2.2 x = true) (fun z => g.length - z.1.toNat) ⟨Int.le_refl _, by dsimp only; omega, by dsimp only; rw [length_repD]; omega, by dsimp only; rw [length_repD]; omega, fun x hx h => (by dsimp only at h; rw [rep27] at h; cases h), fun x hx _ => by dsimp only; rw [rep27]; rfl, fun x hx h => by have := hx.1; dsimp only at h; omega⟩ ?_
  rintro again ⟨i, level, known⟩ ⟨h1, h2, h3, h4, h5, h6, h7⟩ ih
  dsimp only at h1 h2 h3 h4 h5 h6 h7 ih ⊢
  refine WP.bif (fun wh => ?_) (fun wh => ?_) <;> (try simp only [wpH, ne_eq] at wh)
  · have hi : inN i g.length := ⟨h1, wh⟩
    refine WP.chk hi fun _ => ?_
    refine WP.loop (fun z => LvP g L i z.1 z.2.1 z.2.2) (fun z => 2000 * (List.range g.length).countP (offK z.2.1 (z.2.2.map (·.function))) + restSum z.2.2)
      ⟨h3, h4, h5, fun x hx hk _ => h6 x hx hk, fun fr hfr => by rw [one_mem hfr]; exact ⟨hi, [], rfl, fun hk => by show atD level i = 0; exact h6 i hi hk⟩, by simp, by simp, .inl ⟨_, List.mem_cons_self, rfl⟩, h7⟩ ?_
    rintro again2 ⟨level2, known2, st0⟩ hv ih2
    dsimp only at hv ih2 ⊢
    refine WP.bif (fun wh => ?_) (fun wh => ?_) <;> (try simp only [wpH, ne_eq] at wh)
    · have hpop := pop_mem (l := st0) (by omega)
      generalize sliceD st0 0 ((st0.length : Int) - 1) = st at hpop
      generalize atD st0 ((st0.length : Int) - 1) = top at hpop
      subst hpop
      obtain ⟨hA, hS, hD⟩ := snoc_facts st top
      have hll : (st ++ [top]).length = st.length + 1 := by simp
      have hsl : (st ++ [top]).length ≤ g.length := by
        have := rangeI_length hv.nodup fun y hy => by
          obtain ⟨fr, hfr, rfl⟩ := List.mem_map.1 hy
          exact (hv.fr fr hfr).1
        simpa using this
      obtain ⟨hf, p, hp1, hp2⟩ := hv.fr top (List.mem_append_right _ List.mem_cons_self)
      have hfk : inN top.function known2.length := by rw [hv.klen]; exact hf
      have hfl : inN top.function level2.length := by rw [hv.len]; exact hf
      have hrl := (hg.row _ hf).length
      have hrsum : restSum (st ++ [top]) = restSum st + (2 * top.rest.length + 1) := by unfold restSum; simp
      have popped : (top.rest = [] ∨ atD known2 top.function = true) → WP (again2 (level2, setD known2 top.function true, st)) (· = (L, 0)) := fun hr => by
        obtain ⟨_, hv', hc⟩ := hv.pop hL hr
        refine ih2 _ hv' ?_
        dsimp only
        rw [hrsum]
        omega
      refine WP.chk ⟨by omega, by omega⟩ fun _ => WP.chk ⟨by omega, by omega⟩ fun _ => ?_
      simp only [hD]
      refine WP.bif (fun wh => ?_) (fun wh => ?_) <;> (try simp only [wpH, ne_eq] at wh)
      · refine WP.chk hfk fun _ => WP.chk ⟨by omega, by omega⟩ fun _ => WP.chk ⟨by omega, by omega⟩ fun _ => ?_
        exact popped (.inl (List.length_eq_zero_iff.1 (by omega)))
      · have hne := wh
        refine WP.chk hfk fun _ => ?_
        refine WP.bif (fun wh => ?_) (fun wh => ?_) <;> (try simp only [wpH, ne_eq] at wh)
        · refine WP.chk hfk fun _ => WP.chk ⟨by omega, by omega⟩ fun _ => WP.chk ⟨by omega, by omega⟩ fun _ => ?_
          exact popped (.inr wh)
        · have hkt := wh
          cases hrest : top.rest with
          | nil => rw [hrest] at hne; simp at hne
          | cons j r =>
            have hjm : j ∈ atD g top.function := by rw [← hp1, hrest]; exact List.mem_append_right _ List.mem_cons_self
            have hj := hg.rng _ hf j hjm
            have hjk : inN j known2.length := by rw [hv.klen]; exact hj
            have hjl : inN j level2.length := by rw [hv.len]; exact hj
            have e0 : atD (j :: r) 0 = j := rfl
            have hrl2 : (j :: r).length ≤ 512 := by
              have := congrArg List.length hp1
              rw [hrest, List.length_append] at this
              omega
            rw [e0]
            refine WP.chk ⟨by omega, by simp only [List.length_cons]; omega⟩ fun _ => WP.chk hjk fun _ => ?_
            refine WP.bif (fun wh => ?_) (fun wh => ?_) <;> (try simp only [wpH, ne_eq] at wh)
            · obtain ⟨_, _, hv', hc⟩ := hv.push hg hac hrest wh
              refine WP.chk hj fun _ => WP.chk (by simp only [List.length_cons, List.length_nil]; omega) fun _ => ?_
              refine ih2 _ hv' ?_
              dsimp only
              have hs2 : restSum (st ++ [top] ++ [(⟨j, atD g j⟩ : Cycle_frame)]) = restSum (st ++ [top]) + (2 * (atD g j).length + 1) := by unfold restSum; simp; omega
              rw [hs2]
              have := (hg.row j hj).length
              omega
            · have hjv := hv.kn j hj wh
              have hjr := hL.rng j hj
              have hv' := hv.go hrest hj hkt wh
              refine WP.chk hfl fun _ => WP.chk hjl fun _ => WP.chk ⟨by omega, by omega⟩ fun _ => WP.chk hfl fun _ => WP.chk ⟨by omega, by simp only [List.length_cons]; omega, by omega⟩ fun _ => ?_
              have e1 : sliceD (j :: r) 1 ((((j :: r).length : Nat)) : Int) = r := by
                unfold sliceD
                simp
              rw [e1]
              refine ih2 _ hv' ?_
              dsimp only
              have hmap : (st ++ [(⟨top.function, r⟩ : Cycle_frame)]).map (·.function) = (st ++ [top]).map (·.function) := by simp
              have hs3 : restSum (st ++ [(⟨top.function, r⟩ : Cycle_frame)]) = restSum st + (2 * r.length + 1) := by unfold restSum; simp
              rw [hmap, hs3, hrsum, hrest]
              simp only [List.length_cons]
              omega
    · have : st0 = [] := List.length_eq_zero_iff.1 (by omega)
      subst this
      refine WP.chk ⟨by omega, by omega⟩ fun _ => ?_
      refine ih _ ⟨by dsimp only; omega, by dsimp only; omega, hv.len, hv.klen, hv.kn, fun x hx hk => hv.un x hx hk (by simp), fun x hx hlt => ?_⟩ (by dsimp only; omega)
      dsimp only at hlt ⊢
      by_cases e : x = i
      · rw [e]
        rcases hv.ini with ⟨fr, hfr, _⟩ | h
        · cases hfr
        · exact h
      · exact hv.old x hx (by omega)
  · refine WP.ret ?_
    have : level = L := ext27 (by rw [h3, hL.len]) fun k hk => by
      rw [h3] at hk
      exact h5 k hk (h7 k hk (by have := hk.2; omega))
    rw [this]
theorem levels_cyc (g : List (List Int)) (hg : GrP g) (hac : ¬ Acyc g) : WP (cycle_Levels g) (· = ([], 8)) := by
  unfold cycle_Levels
  refine WP.call (find28_sp g hg) ?_
  rintro ⟨l0, b0⟩ hF
  dsimp only at hF ⊢
  cases b0 with
  | false => exact absurd ((hF.acyc hg).1 rfl) hac
  | true => exact WP.bif (fun _ => WP.ret rfl) (fun wh => by cases wh)
theorem levels28r_cyc (g : List (List Int)) (hg : GrP g) (hac : ¬ Acyc g) : WP (r28_Levels g) (· = ([], 8)) := by
  unfold r28_Levels
  refine WP.call (order28r_sp g hg) ?_
  rintro _ rfl
  rw [orderS_cyc hg hac]
  exact WP.bif (fun _ => WP.ret rfl) (fun wh => absurd wh (by decide))
end Go.Proofs.YtmefipdgohflmaaDoor.Q
