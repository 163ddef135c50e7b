/- Chapter 27: the five laws. -/
import Derived.Test.YteifdlklpdjkkaaDoorP27a
import Derived.Test.YteifdlklpdjkkaaDoorP27h
set_option linter.unusedVariables false
set_option linter.unusedSimpArgs false
namespace Go.Proofs.YteifdlklpdjkkaaDoor.Q
theorem ofS_rows {p : AProgram} (hp : ProgP p) : GrP (ofS p) := by
  refine ⟨by rw [ofS_length]; exact hp.len, fun i hi => ?_, fun i hi y hy => ?_⟩
  · rw [ofS_length] at hi
    rw [ofS_at p hi]
    exact (calleesS_ok _).1
  · rw [ofS_length] at hi ⊢
    rw [ofS_at p hi] at hy
    obtain ⟨x, h1, h2, h3⟩ := callsN_pos.1 ((calleesS_ok _).2 y |>.1 hy).1
    rw [← h3]
    exact hp.call i hi x h1 h2
theorem pl_CallgraphOf (cs : List Int) (i j : Int) (h : isU8 cs) (_ : -9223372036854775808 ≤ i ∧ i ≤ 9223372036854775807) (_ : -9223372036854775808 ≤ j ∧ j ≤ 9223372036854775807) : WP (law27_CallgraphOf cs i j) (· = true) := by
  unfold law27_CallgraphOf
  refine WP.call awake27_sp ?_
  rintro _ rfl
  refine WP.bif (fun wh => absurd wh (by decide)) (fun _ => ?_)
  refine WP.call (new_sp cs 300 h (by omega)) fun x2 hx2 => ?_
  refine WP.call (program_sp _ 6 12 hx2 (by omega) (by omega)) fun x3 ⟨h1, h2, _⟩ => ?_
  refine WP.join ProgP (fun p hp => ?_) ?_
  · have hl := hp.len
    refine WP.loop (fun a => 0 ≤ a ∧ a ≤ p.Funcs.length) (fun a => p.Funcs.length - a.toNat) ⟨by omega, by omega⟩ ?_
    rintro again a ⟨a1, a2⟩ ih
    refine WP.bif (fun wh => ?_) (fun wh => ?_) <;> (try simp only [wpH, ne_eq] at wh)
    · have ha := wh
      refine WP.loop (fun b => 0 ≤ b ∧ b ≤ p.Funcs.length) (fun b => p.Funcs.length - b.toNat) ⟨by omega, by omega⟩ ?_
      rintro again2 b ⟨b1, b2⟩ ih2
      refine WP.bif (fun wh => ?_) (fun wh => ?_) <;> (try simp only [wpH, ne_eq] at wh)
      · refine WP.call (calls_sp p hp a b) ?_
        rintro _ rfl
        refine WP.call (calls27_sp p hp a b) ?_
        rintro _ rfl
        refine WP.bif (fun wh => absurd wh (by simp)) (fun _ => ?_)
        exact WP.chk ⟨by omega, by omega⟩ fun _ => ih2 _ ⟨by omega, by omega⟩ (by omega)
      · exact WP.chk ⟨by omega, by omega⟩ fun _ => ih _ ⟨by omega, by omega⟩ (by omega)
    · refine WP.call (of_sp p hp) ?_
      rintro _ rfl
      refine WP.call (of27_sp p hp) ?_
      rintro _ rfl
      refine WP.call (sameAll_sp _ _ (by rw [ofS_length]; omega) fun x hx => ?_) ?_
      · obtain ⟨k, q1, q2, rfl⟩ := mem_atD hx
        have := ((ofS_rows hp).row k ⟨q1, q2⟩).length
        omega
      rintro _ rfl
      refine WP.bif (fun _ => ?_) (fun wh => absurd wh (by simp))
      refine WP.call (calls_sp p hp i j) ?_
      rintro _ rfl
      refine WP.call (calls27_sp p hp i j) ?_
      rintro _ rfl
      exact WP.ret (by simp)
  · intro k hk
    refine WP.call (next_sp _ 2 h1 (by omega)) fun x11 ⟨q1, q2, q3, _⟩ => ?_
    refine WP.bif (fun _ => ?_) (fun _ => hk _ h2.prog)
    exact WP.call (cyclic27_sp _ _ q1 h2) fun x12 ⟨_, q⟩ => hk _ q
theorem pl_CallgraphEdgesAreCalls (cs : List Int) (h : isU8 cs) : WP (law27_CallgraphEdgesAreCalls cs) (· = true) := by
  unfold law27_CallgraphEdgesAreCalls
  refine WP.call awake27_sp ?_
  rintro _ rfl
  refine WP.bif (fun wh => absurd wh (by decide)) (fun _ => ?_)
  refine WP.call (new_sp cs 300 h (by omega)) fun x2 hx2 => ?_
  refine WP.call (program_sp _ 6 12 hx2 (by omega) (by omega)) fun x3 ⟨h1, h2, _⟩ => ?_
  refine WP.call (cyclic27_sp _ _ h1 h2) fun x4 ⟨_, hp⟩ => ?_
  have hl := hp.len
  have hg := ofS_rows hp
  refine WP.call (of_sp _ hp) ?_
  rintro _ rfl
  refine WP.call (check27_sp _ (by rw [ofS_length]; omega)) ?_
  rintro _ rfl
  rw [checkG_iff.2 hg]
  refine WP.bif (fun wh => absurd wh (by decide)) (fun _ => ?_)
  refine WP.bif (fun wh => absurd wh (by rw [ofS_length]; simp)) (fun _ => ?_)
  refine WP.loop (fun a => 0 ≤ a ∧ a ≤ (ofS x4.1).length) (fun a => (ofS x4.1).length - a.toNat) ⟨by omega, by omega⟩ ?_
  rintro again a ⟨a1, a2⟩ ih
  refine WP.bif (fun wh => ?_) (fun wh => ?_) <;> (try simp only [wpH, ne_eq] at wh)
  · have ha : inN a (ofS x4.1).length := ⟨a1, wh⟩
    have ha' : inN a x4.1.Funcs.length := by rw [← ofS_length]; exact ha
    refine WP.loop (fun b => 0 ≤ b ∧ b ≤ (ofS x4.1).length) (fun b => (ofS x4.1).length - b.toNat) ⟨by omega, by omega⟩ ?_
    rintro again2 b ⟨b1, b2⟩ ih2
    have hol := ofS_length x4.1
    refine WP.bif (fun wh => ?_) (fun wh => ?_) <;> (try simp only [wpH, ne_eq] at wh)
    · refine WP.chk ha fun _ => ?_
      refine WP.call (has_sp _ _ (by have := (hg.row a ha).length; omega)) ?_
      rintro _ rfl
      refine WP.call (calls_sp _ hp a b) ?_
      rintro _ rfl
      have e : decide (b ∈ atD (ofS x4.1) a) = decide (0 < callsP x4.1 a b) := decide_eq_decide.2 (by
        rw [ofS_at _ ha', (calleesS_ok _).2, callsP, if_pos (show 0 ≤ a ∧ a < (x4.1.Funcs.length : Int) from ha')]
        exact ⟨fun h => h.1, fun h => ⟨h, b1, by omega⟩⟩)
      rw [e]
      refine WP.bif (fun wh => absurd wh (by simp)) (fun _ => ?_)
      exact WP.chk ⟨by omega, by omega⟩ fun _ => ih2 _ ⟨by omega, by omega⟩ (by omega)
    · exact WP.chk ⟨by omega, by omega⟩ fun _ => ih _ ⟨by omega, by omega⟩ (by omega)
  · exact WP.ret rfl
theorem rep_mem27 {α : Type} [Inhabited α] {n : Int} {x : α} (h : x ∈ (repD n : List α)) : x = default := (List.mem_replicate.1 h).2
theorem pl_CallgraphCheck (g : List (List Int)) (cs : List Int) (hr : ∀ r ∈ g, r.length ≤ 9223372036854775807) (h : isU8 cs) : WP (law27_CallgraphCheck g cs) (· = true) := by
  unfold law27_CallgraphCheck
  refine WP.call awake27_sp ?_
  rintro _ rfl
  refine WP.bif (fun wh => absurd wh (by decide)) (fun _ => ?_)
  refine WP.bif (fun wh => WP.ret wh) (fun wh => ?_)
  have hl : g.length ≤ 200 := by have := of_decide_eq_false wh; omega
  refine WP.call (new_sp cs 60 h (by omega)) fun x2 hx2 => ?_
  refine WP.call (graph27_sp x2 9 false hx2 (by omega)) fun x3 ⟨_, hg, h9, _⟩ => ?_
  refine WP.chk (by omega) fun _ => ?_
  refine WP.call (check27_sp g (by omega)) ?_
  rintro _ rfl
  refine WP.call (check27r_sp g hr) ?_
  rintro _ rfl
  refine WP.bif (fun _ => ?_) (fun wh => absurd wh (by simp))
  refine WP.call (check27_sp _ (by omega)) ?_
  rintro _ rfl
  rw [checkG_iff.2 hg]
  refine WP.bif (fun _ => ?_) (fun wh => absurd wh (by simp))
  refine WP.call (check27_sp [] (by simp)) ?_
  rintro _ rfl
  refine WP.bif (fun _ => ?_) (fun wh => absurd wh (by decide))
  have e81 : (repD 81 : List (List Int)).length = 81 := by rw [length_repD]; rfl
  refine WP.call (check27_sp _ (by rw [e81]; omega)) ?_
  rintro _ rfl
  have e1 : checkG (repD 81 : List (List Int)) = false := by
    unfold checkG
    rw [e81, decide_eq_false (by omega), Bool.false_and]
  rw [e1]
  refine WP.bif (fun _ => ?_) (fun wh => absurd wh (by decide))
  refine WP.chk ⟨by omega, by rw [e81]; omega, by omega⟩ fun _ => ?_
  have es : (sliceD (repD 81 : List (List Int)) 1 ((repD 81 : List (List Int)).length : Int)).length = 80 := by
    rw [e81]; unfold sliceD; rw [List.length_take, List.length_drop, e81]; rfl
  refine WP.call (check27_sp _ (by rw [es]; omega)) ?_
  rintro _ rfl
  refine WP.ret ?_
  refine checkG_iff.2 ⟨by rw [es]; omega, fun i hi => ?_, fun i hi => ?_⟩
  all_goals
    have hm := atD_mem hi
    have : atD (sliceD (repD 81 : List (List Int)) 1 ((repD 81 : List (List Int)).length : Int)) i = [] := rep_mem27 (List.drop_subset _ _ (List.take_subset _ _ hm))
    rw [this]
  · exact IsS.nil
  · intro y hy; cases hy
theorem pl_CallgraphReach (cs : List Int) (fr : Int) (h : isU8 cs) (_ : -9223372036854775808 ≤ fr ∧ fr ≤ 9223372036854775807) : WP (law27_CallgraphReach cs fr) (· = true) := by
  unfold law27_CallgraphReach
  refine WP.call awake27_sp ?_
  rintro _ rfl
  refine WP.bif (fun wh => absurd wh (by decide)) (fun _ => ?_)
  refine WP.call (new_sp cs 100 h (by omega)) fun x2 hx2 => ?_
  refine WP.call (next_sp _ 2 hx2 (by omega)) fun x3 ⟨h1, _⟩ => ?_
  refine WP.call (graph27_sp _ 9 _ h1 (by omega)) fun x4 ⟨_, hg, h9, _⟩ => ?_
  have both : ∀ a (Q : Bool → Prop) (K : Bool → M Bool), WP (K true) Q → WP (M.call (callgraph_Reach x4.1 a) fun x5 => M.call (r27_Reach x4.1 a) fun x6 => M.call (r04_Same x5 x6) K) Q := fun a Q K hK => by
    refine WP.call (reach27_sp _ hg a) fun x5 h5 => ?_
    refine WP.call (reach27r_sp _ hg a) fun x6 h6 => ?_
    refine WP.call (same_sp _ _ (by have := h5.length; omega)) ?_
    rintro _ rfl
    rw [decide_eq_true (h5.uniq h6)]
    exact hK
  refine WP.loop (fun i => 0 ≤ i ∧ i ≤ x4.1.length) (fun i => x4.1.length - i.toNat) ⟨by omega, by omega⟩ ?_
  rintro again i ⟨a1, a2⟩ ih
  refine WP.bif (fun wh => ?_) (fun wh => ?_) <;> (try simp only [wpH, ne_eq] at wh)
  · refine both i _ _ ?_
    refine WP.bif (fun wh => absurd wh (by decide)) (fun _ => ?_)
    exact WP.chk ⟨by omega, by omega⟩ fun _ => ih _ ⟨by omega, by omega⟩ (by omega)
  · refine WP.call (turn27_sp _ hg) ?_
    rintro _ rfl
    refine WP.call (turn27r_sp _ hg) ?_
    rintro _ rfl
    refine WP.call (sameAll_sp _ _ (by rw [turnS_length]; omega) fun x hx => ?_) ?_
    · obtain ⟨k, q1, q2, rfl⟩ := mem_atD hx
      have := (hg.turn.row k ⟨q1, q2⟩).length
      omega
    rintro _ rfl
    refine WP.bif (fun _ => ?_) (fun wh => absurd wh (by simp))
    exact both fr _ _ (WP.ret rfl)
theorem pl_CallgraphTurn (cs : List Int) (h : isU8 cs) : WP (law27_CallgraphTurn cs) (· = true) := by
  unfold law27_CallgraphTurn
  refine WP.call awake27_sp ?_
  rintro _ rfl
  refine WP.bif (fun wh => absurd wh (by decide)) (fun _ => ?_)
  refine WP.call (new_sp cs 100 h (by omega)) fun x2 hx2 => ?_
  refine WP.call (graph27_sp x2 9 false hx2 (by omega)) fun x3 ⟨_, hg, h9, _⟩ => ?_
  refine WP.call (turn27_sp _ hg) ?_
  rintro _ rfl
  have hgt := hg.turn
  have htl := turnS_length x3.1
  refine WP.call (check27_sp _ (by omega)) ?_
  rintro _ rfl
  rw [checkG_iff.2 hgt]
  refine WP.bif (fun wh => absurd wh (by decide)) (fun _ => ?_)
  refine WP.bif (fun wh => absurd wh (by rw [htl]; simp)) (fun _ => ?_)
  refine WP.call (turn27_sp _ hgt) ?_
  rintro _ rfl
  rw [turnS_turnS hg]
  refine WP.call (sameAll_sp _ _ (by omega) fun x hx => ?_) ?_
  · obtain ⟨k, q1, q2, rfl⟩ := mem_atD hx
    have := (hg.row k ⟨q1, q2⟩).length
    omega
  rintro _ rfl
  refine WP.bif (fun wh => absurd wh (by simp)) (fun _ => ?_)
  refine WP.loop (fun i => 0 ≤ i ∧ i ≤ x3.1.length) (fun i => x3.1.length - i.toNat) ⟨by omega, by omega⟩ ?_
  rintro again i ⟨a1, a2⟩ ih
  refine WP.bif (fun wh => ?_) (fun wh => ?_) <;> (try simp only [wpH, ne_eq] at wh)
  · have hi : inN i x3.1.length := ⟨a1, wh⟩
    refine WP.call (reach27_sp _ hg i) fun x8 h8 => ?_
    have h8 := h8.ins hi
    have l8 := h8.set.length
    refine WP.call (has_sp _ _ (by omega)) ?_
    rintro _ rfl
    rw [decide_eq_true ((h8.mem i).2 .refl)]
    refine WP.bif (fun wh => absurd wh (by decide)) (fun _ => ?_)
    refine WP.loop (fun j => 0 ≤ j ∧ j ≤ x3.1.length) (fun j => x3.1.length - j.toNat) ⟨by omega, by omega⟩ ?_
    rintro again2 j ⟨b1, b2⟩ ih2
    refine WP.bif (fun wh => ?_) (fun wh => ?_) <;> (try simp only [wpH, ne_eq] at wh)
    · have hj : inN j x3.1.length := ⟨b1, wh⟩
      refine WP.call (has_sp _ _ (by omega)) ?_
      rintro _ rfl
      refine WP.call (reach27_sp _ hgt j) fun x11 h11 => ?_
      have h11 := h11.ins (by rw [htl]; exact hj)
      have l11 := h11.set.length
      refine WP.call (has_sp _ _ (by omega)) ?_
      rintro _ rfl
      have e : decide (i ∈ x11) = decide (j ∈ x8) := decide_eq_decide.2 (by rw [h11.mem, h8.mem]; exact Way.turn_iff hg hi hj)
      rw [e]
      refine WP.bif (fun wh => absurd wh (by simp)) (fun _ => ?_)
      refine WP.call (has_sp _ _ (by omega)) ?_
      rintro _ rfl
      refine WP.bif (fun wh => ?_) (fun wh => ?_) <;> (try simp only [wpH, ne_eq] at wh)
      · have hw := (h8.mem j).1 wh
        refine WP.call (reach27_sp _ hg j) fun x14 h14 => ?_
        have h14 := h14.ins hj
        have l14 := h14.set.length
        refine WP.call (within_sp _ _ (by omega) (by omega)) ?_
        rintro _ rfl
        rw [decide_eq_true (p := ∀ x ∈ x14, x ∈ x8) fun x hx => (h8.mem x).2 (hw.trans ((h14.mem x).1 hx))]
        refine WP.bif (fun wh => absurd wh (by decide)) (fun _ => ?_)
        exact WP.chk ⟨by omega, by omega⟩ fun _ => ih2 _ ⟨by omega, by omega⟩ (by omega)
      · exact WP.chk ⟨by omega, by omega⟩ fun _ => ih2 _ ⟨by omega, by omega⟩ (by omega)
    · exact WP.chk ⟨by omega, by omega⟩ fun _ => ih _ ⟨by omega, by omega⟩ (by omega)
  · exact WP.ret rfl
end Go.Proofs.YteifdlklpdjkkaaDoor.Q
