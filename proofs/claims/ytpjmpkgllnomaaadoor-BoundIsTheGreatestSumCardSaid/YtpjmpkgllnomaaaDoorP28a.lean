/- Chapter 28: the order of functions; graphs without cycles. -/
import Derived.Test.YtpjmpkgllnomaaaDoorP27h
set_option linter.unusedVariables false
set_option linter.unusedSimpArgs false
namespace Go.Proofs.YtpjmpkgllnomaaaDoor.Q
/-- Function i may come next behind these. -/
def canO (g : List (List Int)) (out : List Int) (i : Int) : Bool := !decide (i ∈ out) && decide (∀ y ∈ atD g i, y ∈ out)
/-- The first function from k on that may come next. -/
def nextO (g : List (List Int)) (out : List Int) : Nat → Int → Int
  | 0, _ => -1
  | f + 1, k => if canO g out k then k else nextO g out f (k + 1)
theorem nextO_spec (g : List (List Int)) (out : List Int) : ∀ (f : Nat) (k : Int), 0 ≤ k → (nextO g out f k = -1 ∧ ∀ i, k ≤ i → i < k + f → canO g out i = false) ∨ (k ≤ nextO g out f k ∧ nextO g out f k < k + f ∧ canO g out (nextO g out f k) = true)
  | 0, k, h => .inl ⟨rfl, fun i h1 h2 => by omega⟩
  | f + 1, k, h => by
    unfold nextO
    by_cases hc : canO g out k = true
    · rw [if_pos hc]; exact .inr ⟨Int.le_refl _, by omega, hc⟩
    · rw [if_neg hc]
      rcases nextO_spec g out f (k + 1) (by omega) with ⟨h1, h2⟩ | ⟨h1, h2, h3⟩
      · refine .inl ⟨h1, fun i q1 q2 => ?_⟩
        by_cases hi : i = k
        · rw [hi]; simpa using hc
        · exact h2 i (by omega) (by omega)
      · exact .inr ⟨by omega, by omega, h3⟩
def nextS (g : List (List Int)) (out : List Int) : Int := nextO g out g.length 0
theorem nextS_spec (g : List (List Int)) (out : List Int) : (nextS g out = -1 ∧ ∀ i, inN i g.length → canO g out i = false) ∨ (inN (nextS g out) g.length ∧ canO g out (nextS g out) = true) := by
  rcases nextO_spec g out g.length 0 (Int.le_refl _) with ⟨h1, h2⟩ | ⟨h1, h2, h3⟩
  · exact .inl ⟨h1, fun i hi => h2 i hi.1 (by have := hi.2; omega)⟩
  · exact .inr ⟨⟨h1, by show nextO g out g.length 0 < g.length; omega⟩, h3⟩
def orderN (g : List (List Int)) : Nat → List Int → List Int × Int
  | 0, out => (out, 0)
  | f + 1, out => if nextS g out < 0 then ([], 8) else orderN g f (out ++ [nextS g out])
def orderS (g : List (List Int)) : List Int × Int := orderN g g.length []
theorem canO_iff {g : List (List Int)} {out : List Int} {i : Int} : canO g out i = true ↔ i ∉ out ∧ ∀ y ∈ atD g i, y ∈ out := by
  unfold canO
  rw [Bool.and_eq_true, Bool.not_eq_true', decide_eq_false_iff_not, decide_eq_true_eq]
/-- Some functions in order. -/
structure OrdP (g : List (List Int)) (out done : List Int) : Prop where
  set : IsS done
  same : ∀ y, y ∈ done ↔ y ∈ out
  nodup : out.Nodup
  rng : ∀ y ∈ out, inN y g.length
theorem OrdP.nil (g : List (List Int)) : OrdP g [] [] := ⟨IsS.nil, fun _ => Iff.rfl, List.nodup_nil, fun y hy => by cases hy⟩
theorem rangeI_length {l : List Int} {n : Nat} (h : l.Nodup) (hr : ∀ y ∈ l, inN y n) : l.length ≤ n := by
  have := nodup_length (a := l) (b := (List.range n).map fun k : Nat => (k : Int)) h fun y hy => List.mem_map.2 ⟨y.toNat, List.mem_range.2 (by have h1 := (hr y hy).1; have h2 := (hr y hy).2; omega), Int.toNat_of_nonneg (hr y hy).1⟩
  simpa using this
theorem OrdP.length {g : List (List Int)} {out done : List Int} (h : OrdP g out done) : out.length ≤ g.length := rangeI_length h.nodup h.rng
theorem OrdP.snoc {g : List (List Int)} {out done done' : List Int} (h : OrdP g out done) {x : Int} (hx : inN x g.length) (hn : x ∉ out) (hd : IsS done') (hs : ∀ y, y ∈ done' ↔ y ∈ done ∨ y = x) : OrdP g (out ++ [x]) done' := by
  refine ⟨hd, fun y => ?_, ?_, fun y hy => ?_⟩
  · rw [hs, h.same, List.mem_append, List.mem_singleton]
  · exact List.nodup_append.2 ⟨h.nodup, by simp, fun a ha b hb e => hn (by rw [List.mem_singleton] at hb; rw [← hb, ← e]; exact ha)⟩
  · rcases List.mem_append.1 hy with hy | hy
    · exact h.rng y hy
    · rw [List.mem_singleton] at hy; rw [hy]; exact hx
theorem setOf_snoc {s : List Int} (hs : IsS s) {x : Int} (hx : 0 ≤ x ∧ x < 512) : ∀ y, y ∈ setOf (s ++ [x]) ↔ y ∈ s ∨ y = x := fun y => by
  rw [mem_setOf, List.mem_append, List.mem_singleton]
  refine ⟨fun h => h.1, fun h => ⟨h, ?_⟩⟩
  rcases h with h | rfl
  · exact hs.rng y h
  · exact hx
theorem order28_sp (g : List (List Int)) (hg : GrP g) : WP (cycle_Order g) (· = orderS g) := by
  have hlen := hg.len
  unfold cycle_Order
  refine WP.loop (fun z => OrdP g z.2 z.1 ∧ orderN g (g.length - z.2.length) z.2 = orderS g) (fun z => g.length - z.2.length) ⟨OrdP.nil g, rfl⟩ ?_
  rintro again ⟨done, out⟩ ⟨h1, h2⟩ ih
  dsimp only at h1 h2 ih ⊢
  have hol := h1.length
  refine WP.bif (fun wh => ?_) (fun wh => ?_) <;> (try simp only [wpH, ne_eq] at wh)
  · have hlt : out.length < g.length := by omega
    have ef : g.length - out.length = (g.length - out.length - 1) + 1 := by omega
    rw [ef] at h2
    unfold orderN at h2
    refine WP.join (fun x => x = nextS g out) ?_ ?_
    · rintro _ rfl
      refine WP.bif (fun wh => ?_) (fun wh => ?_) <;> (try simp only [wpH, ne_eq] at wh)
      · rw [if_pos wh] at h2
        exact WP.ret h2
      · rw [if_neg (by omega)] at h2
        rcases nextS_spec g out with ⟨q1, q2⟩ | ⟨q1, q2⟩
        · omega
        · obtain ⟨q3, q4⟩ := canO_iff.1 q2
          refine WP.chk (by simp only [List.length_singleton]; omega) fun _ => ?_
          unfold bitset_Add
          refine WP.call (R := (· = setOf (done ++ [nextS g out]))) (WP.ret rfl) fun x1 hx1 => ?_
          have h512 : 0 ≤ nextS g out ∧ nextS g out < 512 := ⟨q1.1, by have := q1.2; omega⟩
          have hS2 : IsS x1 := by rw [hx1]; exact IsS.setOf _
          have hM2 : ∀ y, y ∈ x1 ↔ y ∈ done ∨ y = nextS g out := fun y => by rw [hx1]; exact setOf_snoc h1.set h512 y
          clear hx1
          refine ih _ ⟨h1.snoc q1 q3 hS2 hM2, ?_⟩ (by dsimp only; simp only [List.length_append, List.length_singleton]; omega)
          dsimp only
          rw [← h2]
          congr 1
          simp only [List.length_append, List.length_singleton]; omega
    · intro k hk
      have hst : ∀ x, inN x g.length → (in512 x && decide (x ∈ done)) = decide (x ∈ out) := fun x hx => by
        rw [in512_iff.2 ⟨hx.1, by have := hx.2; omega⟩, Bool.true_and]
        exact decide_eq_decide.2 (h1.same x)
      refine WP.loop (fun x => 0 ≤ x ∧ x ≤ g.length ∧ nextO g out (g.length - x.toNat) x = nextS g out) (fun x => g.length - x.toNat) ⟨Int.le_refl _, by omega, rfl⟩ ?_
      rintro again2 x ⟨g1, g2, g3⟩ ih2
      refine WP.bif (fun wh => ?_) (fun wh => ?_) <;> (try simp only [wpH, ne_eq] at wh)
      · have hx : inN x g.length := ⟨g1, wh⟩
        have e1 : g.length - x.toNat = (g.length - (x + 1).toNat) + 1 := by omega
        rw [e1] at g3
        unfold nextO at g3
        refine WP.chk hx fun _ => ?_
        unfold bitset_Has
        refine WP.call (R := (· = (in512 x && decide (x ∈ done)))) (WP.ret rfl) ?_
        rintro _ rfl
        rw [hst x hx]
        have skip : canO g out x = false → WP (again2 (x + 1)) (· = orderS g) := fun hc => by
          rw [if_neg (by rw [hc]; decide)] at g3
          exact ih2 _ ⟨by omega, by omega, g3⟩ (by omega)
        refine WP.bif (fun wh => ?_) (fun wh => ?_) <;> (try simp only [wpH, ne_eq] at wh)
        · have hno := wh
          unfold bitset_Within
          refine WP.call (R := (· = (atD g x).all fun y => in512 y && decide (y ∈ done))) (WP.ret rfl) ?_
          rintro _ rfl
          have e2 : ((atD g x).all fun y => in512 y && decide (y ∈ done)) = decide (∀ y ∈ atD g x, y ∈ out) := by
            rw [Bool.eq_iff_iff, List.all_eq_true, decide_eq_true_eq]
            refine forall_congr' fun y => forall_congr' fun hy => ?_
            rw [hst y (hg.rng x hx y hy), decide_eq_true_eq]
          rw [e2]
          refine WP.bif (fun wh => ?_) (fun wh => ?_) <;> (try simp only [wpH, ne_eq] at wh)
          · rw [if_pos (canO_iff.2 ⟨hno, wh⟩)] at g3
            exact hk _ g3
          · refine WP.chk ⟨by omega, by omega⟩ fun _ => skip ?_
            cases hc : canO g out x with
            | false => rfl
            | true => exact absurd (canO_iff.1 hc).2 wh
        · refine WP.chk ⟨by omega, by omega⟩ fun _ => skip ?_
          cases hc : canO g out x with
          | false => rfl
          | true => exact absurd wh (canO_iff.1 hc).1
      · have : g.length - x.toNat = 0 := by omega
        rw [this] at g3
        exact hk _ g3
  · have : g.length - out.length = 0 := by omega
    rw [this] at h2
    exact WP.ret h2
/-! ### Without cycles -/
def Acyc (g : List (List Int)) : Prop := ∀ a, inN a g.length → ∀ b ∈ atD g a, ¬ Way g b a
/-- An order: each function once, behind all that it calls. -/
structure TopoP (g : List (List Int)) (l : List Int) : Prop where
  len : l.length = g.length
  nodup : l.Nodup
  rng : ∀ y ∈ l, inN y g.length
  behind : ∀ k, inN k l.length → ∀ y ∈ atD g (atD l k), y ∈ l.take k.toNat
theorem orderN_spec (g : List (List Int)) (hg : GrP g) : ∀ (f : Nat) (out : List Int), out.length + f = g.length → out.Nodup → (∀ y ∈ out, inN y g.length) → (∀ k, inN k out.length → ∀ y ∈ atD g (atD out k), y ∈ out.take k.toNat) →
    ((orderN g f out).2 = 0 ∧ TopoP g (orderN g f out).1) ∨ (orderN g f out = ([], 8) ∧ ∃ S : List Int, (∃ i, inN i g.length ∧ i ∉ S) ∧ ∀ i, inN i g.length → i ∉ S → ∃ y ∈ atD g i, y ∉ S)
  | 0, out, h1, h2, h3, h4 => .inl ⟨rfl, ⟨by show out.length = _; omega, h2, h3, h4⟩⟩
  | f + 1, out, h1, h2, h3, h4 => by
    unfold orderN
    rcases nextS_spec g out with ⟨q1, q2⟩ | ⟨q1, q2⟩
    · rw [if_pos (by omega)]
      refine .inr ⟨rfl, out, ?_, fun i hi hn => ?_⟩
      · refine Classical.byContradiction fun hno => ?_
        have hall : ∀ i, inN i g.length → i ∈ out := fun i hi => Classical.byContradiction fun h => hno ⟨i, hi, h⟩
        have hr : ((List.range g.length).map fun k : Nat => (k : Int)).Nodup := by
          have h := asc_range (fun _ => true) g.length
          rw [List.filter_eq_self.2 (fun _ _ => rfl)] at h
          exact h.imp fun h => by omega
        have := nodup_length hr (b := out) fun y hy => by
          obtain ⟨k, hk, rfl⟩ := List.mem_map.1 hy
          exact hall _ ⟨by omega, by have := List.mem_range.1 hk; omega⟩
        simp only [List.length_map, List.length_range] at this
        omega
      · have := q2 i hi
        refine Classical.byContradiction fun hno => ?_
        have : canO g out i = true := canO_iff.2 ⟨hn, fun y hy => Classical.byContradiction fun h => hno ⟨y, hy, h⟩⟩
        rw [q2 i hi] at this; cases this
    · obtain ⟨q3, q4⟩ := canO_iff.1 q2
      rw [if_neg (by have := q1.1; omega)]
      refine orderN_spec g hg f (out ++ [nextS g out]) (by simp only [List.length_append, List.length_singleton]; omega) ?_ (fun y hy => ?_) (fun k hk y hy => ?_)
      · exact List.nodup_append.2 ⟨h2, by simp, fun a ha b hb e => q3 (by rw [List.mem_singleton] at hb; rw [← hb, ← e]; exact ha)⟩
      · rcases List.mem_append.1 hy with hy | hy
        · exact h3 y hy
        · rw [List.mem_singleton] at hy; rw [hy]; exact q1
      · have hk2 : k < (out.length : Int) + 1 := by have := hk.2; simp only [List.length_append, List.length_singleton] at this; omega
        by_cases hlt : k < out.length
        · rw [atD_append_left (by have := hk.1; omega)] at hy
          have := h4 k ⟨hk.1, hlt⟩ y hy
          rw [List.take_append_of_le_length (by have := hk.1; omega)]
          exact this
        · have hke : k = out.length := by omega
          rw [atD_last hke] at hy
          rw [hke, Int.toNat_natCast, List.take_left]
          exact q4 y hy
theorem orderS_spec {g : List (List Int)} (hg : GrP g) : ((orderS g).2 = 0 ∧ TopoP g (orderS g).1) ∨ (orderS g = ([], 8) ∧ ∃ S : List Int, (∃ i, inN i g.length ∧ i ∉ S) ∧ ∀ i, inN i g.length → i ∉ S → ∃ y ∈ atD g i, y ∉ S) :=
  orderN_spec g hg g.length [] (by simp) List.nodup_nil (fun y hy => by cases hy) fun k hk => by have := hk.1; have h2 : k < 0 := hk.2; omega
theorem TopoP.mem {g : List (List Int)} {l : List Int} (h : TopoP g l) {i : Int} (hi : inN i g.length) : i ∈ l := by
  refine Classical.byContradiction fun hn => ?_
  have := rangeI_length (l := i :: l) (n := g.length) (List.nodup_cons.2 ⟨hn, h.nodup⟩) fun y hy => (List.mem_cons.1 hy).elim (fun e => e ▸ hi) (h.rng y)
  simp only [List.length_cons] at this
  have := h.len
  omega
theorem TopoP.idx {g : List (List Int)} {l : List Int} (h : TopoP g l) {a b : Int} (ha : inN a g.length) (hb : b ∈ atD g a) : l.idxOf b < l.idxOf a := by
  have hm := h.mem ha
  have hlt := List.idxOf_lt_length_iff.2 hm
  have e : atD l (l.idxOf a : Int) = a := by rw [atD_nat hlt]; exact List.getElem_idxOf hlt
  have := h.behind (l.idxOf a : Int) ⟨by omega, by omega⟩ b (by rw [e]; exact hb)
  rw [Int.toNat_natCast] at this
  obtain ⟨k, hk, hk2⟩ := List.getElem_of_mem this
  rw [List.length_take] at hk
  rw [List.getElem_take] at hk2
  have : l.idxOf b = k := by rw [← hk2]; exact h.nodup.idxOf_getElem k (by omega)
  omega
theorem TopoP.way {g : List (List Int)} (hg : GrP g) {l : List Int} (h : TopoP g l) {a b : Int} (ha : inN a g.length) (hw : Way g a b) : l.idxOf b ≤ l.idxOf a := by
  induction hw with
  | refl => exact Nat.le_refl _
  | step h1 h2 ih => have := h.idx (h1.rng hg ha) h2; omega
theorem TopoP.acyc {g : List (List Int)} (hg : GrP g) {l : List Int} (h : TopoP g l) : Acyc g := fun a ha b hb hw => by
  have h1 := h.idx ha hb
  have h2 := h.way hg (hg.rng a ha b hb) hw
  omega
/-- A walk that never ends comes back. -/
theorem endless_back {g : List (List Int)} (hg : GrP g) {S : Int → Prop} (h0 : ∃ i, inN i g.length ∧ S i) (hS : ∀ i, inN i g.length → S i → ∃ y ∈ atD g i, S y) : ¬ Acyc g := fun hac => by
  obtain ⟨i0, hi0, hs0⟩ := h0
  -- a list of k functions, each called by the one behind it
  have key : ∀ n : Nat, ∃ (l : List Int) (x : Int), l.length = n ∧ l.Nodup ∧ inN x g.length ∧ S x ∧ (∀ y ∈ l, inN y g.length ∧ ∃ z ∈ atD g y, Way g z x) := fun n => by
    induction n with
    | zero => exact ⟨[], i0, rfl, List.nodup_nil, hi0, hs0, fun y hy => by cases hy⟩
    | succ n ih =>
      obtain ⟨l, x, h1, h2, h3, h4, h5⟩ := ih
      obtain ⟨y, hy, hsy⟩ := hS x h3 h4
      have hxl : x ∉ l := fun hm => by
        obtain ⟨_, z, hz, hw⟩ := h5 x hm
        exact hac x h3 z hz hw
      exact ⟨x :: l, y, by simp [h1], List.nodup_cons.2 ⟨hxl, h2⟩, hg.rng x h3 y hy, hsy, fun z hz => by
        rcases List.mem_cons.1 hz with rfl | hz
        · exact ⟨h3, y, hy, .refl⟩
        · obtain ⟨q1, w, q2, q3⟩ := h5 z hz
          exact ⟨q1, w, q2, q3.step hy⟩⟩
  obtain ⟨l, x, h1, h2, _, _, h5⟩ := key (g.length + 1)
  have := rangeI_length h2 fun y hy => (h5 y hy).1
  omega
theorem orderS_ok {g : List (List Int)} (hg : GrP g) (h : Acyc g) : (orderS g).2 = 0 ∧ TopoP g (orderS g).1 := by
  rcases orderS_spec hg with h1 | ⟨_, S, h1, h2⟩
  · exact h1
  · exact absurd h (endless_back hg h1 fun i hi hn => h2 i hi hn)
theorem orderS_cyc {g : List (List Int)} (hg : GrP g) (h : ¬ Acyc g) : orderS g = ([], 8) := by
  rcases orderS_spec hg with h1 | ⟨h1, _⟩
  · exact absurd (h1.2.acyc hg) h
  · exact h1
theorem Acyc.of_up {g : List (List Int)} (hg : GrP g) (h : ∀ i, inN i g.length → ∀ y ∈ atD g i, i < y) : Acyc g := fun a ha b hb hw => by
  have key : ∀ c, Way g b c → b ≤ c := fun c hc => by
    induction hc with
    | refl => exact Int.le_refl _
    | step h1 h2 ih => have := h _ (h1.rng hg (hg.rng a ha b hb)) _ h2; omega
  have := key a hw
  have := h a ha b hb
  omega
end Go.Proofs.YtpjmpkgllnomaaaDoor.Q
