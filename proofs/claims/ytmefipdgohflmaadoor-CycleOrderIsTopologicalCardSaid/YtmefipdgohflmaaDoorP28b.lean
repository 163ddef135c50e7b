/- Chapter 28: distances, and the cycle that is found. -/
import Derived.Test.YtmefipdgohflmaaDoorP28a
set_option linter.unusedVariables false
set_option linter.unusedSimpArgs false
namespace Go.Proofs.YtmefipdgohflmaaDoor.Q
/-! ### A slice repeated -/
theorem and81 (n : Int) (h : 0 ≤ n ∧ n ≤ 80) : Go.bits .and .u64 n 4294967295 = n := by
  have key : ∀ k : Fin 81, Go.bits .and .u64 ((k : Nat) : Int) 4294967295 = ((k : Nat) : Int) := by decide
  have := key ⟨n.toNat, by omega⟩
  dsimp only at this
  rwa [Int.toNat_of_nonneg h.1] at this
theorem mul81 (n : Int) (h : 0 ≤ n ∧ n ≤ 80) : WP (bits_Mul 1 n) (· = (0, n)) := by
  unfold bits_Mul bits_Mul64
  have h32 : (2 : Int) ^ (32 : Int).toNat = 4294967296 := by decide
  have hq1 : (1 : Int) / 4294967296 = 0 := by decide
  have hq0 : (0 : Int) / 4294967296 = 0 := by decide
  have hqn : n / 4294967296 = 0 := Int.ediv_eq_zero_of_lt h.1 (by omega)
  have hb1 : Go.bits .and .u64 1 4294967295 = 1 := by decide
  have hb0 : Go.bits .and .u64 0 4294967295 = 0 := by decide
  simp only [h32, hq1, hqn, hb1, and81 n h, Int.zero_mul, Int.one_mul, Int.mul_zero, Int.zero_add, Int.add_zero, hb0, hq0]
  refine WP.call (R := (· = (0, n))) ?_ ?_
  · repeat' (refine WP.chk (by omega) fun _ => ?_)
    exact WP.ret rfl
  · rintro _ rfl
    exact WP.ret rfl
theorem rep_step (a b : Int) {k m j : Nat} (hm : m ≤ k) (hj : m ≤ j) : putL (List.replicate k a ++ List.replicate j b) (k : Int) (List.replicate k a ++ List.replicate j b |>.take m) = List.replicate (k + m) a ++ List.replicate (j - m) b := by
  have e1 : (List.replicate k a ++ List.replicate j b).take m = List.replicate m a := by
    rw [List.take_append_of_le_length (by simpa using hm), List.take_replicate, Nat.min_eq_left hm]
  have e2 : (List.replicate k a ++ List.replicate j b).take k = List.replicate k a := by
    rw [List.take_append_of_le_length (by simp), List.take_replicate, Nat.min_self]
  have e3 : (List.replicate k a ++ List.replicate j b).drop (k + m) = List.replicate (j - m) b := by
    rw [List.drop_append, List.drop_eq_nil_of_le (by simp), List.nil_append, List.length_replicate, List.drop_replicate]
    congr 1; omega
  unfold putL
  rw [e1, Int.toNat_natCast, e2, List.length_replicate, e3, List.replicate_append_replicate]
theorem repeat28_sp (n : Int) (hn : 1 ≤ n ∧ n ≤ 80) : WP (slices_Repeat___int_int_ ([81] : List Int) n) (· = List.replicate n.toNat 81) := by
  unfold slices_Repeat___int_int_
  have e1 : ((([81] : List Int).length : Nat) : Int) = 1 := rfl
  simp only [e1]
  refine WP.bif (fun wh => ?_) (fun wh => ?_) <;> (try simp only [wpH, ne_eq] at wh)
  · omega
  refine WP.chk ⟨by omega, by omega⟩ fun _ => WP.chk ⟨by omega, by omega⟩ fun _ => ?_
  refine WP.call (mul81 n (by omega)) ?_
  rintro _ rfl
  refine WP.join (fun x => x = false) ?_ ?_
  · rintro _ rfl
    refine WP.bif (fun wh => by cases wh) (fun _ => ?_)
    refine WP.chk ⟨by dsimp only; omega, by dsimp only; omega⟩ fun _ => WP.chk ⟨by dsimp only; omega, by dsimp only; omega⟩ fun _ => ?_
    have hrl : (repD n : List Int) = List.replicate n.toNat 0 := rfl
    refine WP.loop (fun z => 1 ≤ z.1 ∧ z.1 ≤ n ∧ z.2 = List.replicate z.1.toNat 81 ++ List.replicate (n.toNat - z.1.toNat) 0) (fun z => n.toNat - z.1.toNat) ⟨?_, ?_, ?_⟩ ?_
    · dsimp only; rw [hrl]; simp; omega
    · dsimp only; rw [hrl]; simp; omega
    · dsimp only
      rw [hrl]
      have e2 : min ([81] : List Int).length (List.replicate n.toNat (0 : Int)).length = 1 := by simp; omega
      rw [e2]
      unfold putL
      simp
    · rintro again ⟨k, s⟩ ⟨h1, h2, h3⟩ ih
      dsimp only at h1 h2 h3 ih ⊢
      have hsl : s.length = n.toNat := by rw [h3]; simp; omega
      refine WP.bif (fun wh => ?_) (fun wh => ?_) <;> (try simp only [wpH, ne_eq] at wh)
      · have hmin : min (k.toNat - (0 : Int).toNat) ((s.length : Int).toNat - k.toNat) = min k.toNat (n.toNat - k.toNat) := by
          have q1 : (s.length : Int).toNat = n.toNat := by omega
          have q2 : (0 : Int).toNat = 0 := rfl
          rw [q1, q2, Nat.sub_zero]
        rw [hmin]
        have hm1 : min k.toNat (n.toNat - k.toNat) ≤ k.toNat := Nat.min_le_left _ _
        have hm2 : min k.toNat (n.toNat - k.toNat) ≤ n.toNat - k.toNat := Nat.min_le_right _ _
        have hm3 : 1 ≤ min k.toNat (n.toNat - k.toNat) := by omega
        generalize min k.toNat (n.toNat - k.toNat) = m at hm1 hm2 hm3 ⊢
        refine WP.chk ⟨by omega, by omega, by omega, by omega⟩ fun _ => WP.chk ⟨by omega, by omega, by omega, by omega⟩ fun _ => WP.chk ⟨by omega, by simp; omega, by omega⟩ fun _ => WP.chk ⟨by omega, by omega⟩ fun _ => ?_
        refine ih _ ⟨by dsimp only; omega, by dsimp only; omega, ?_⟩ (by dsimp only; omega)
        dsimp only
        have e3 : (k + (m : Int)).toNat = k.toNat + m := by omega
        rw [e3, h3]
        have e4 : ((List.replicate k.toNat (81 : Int) ++ List.replicate (n.toNat - k.toNat) 0).drop (0 : Int).toNat) = List.replicate k.toNat (81 : Int) ++ List.replicate (n.toNat - k.toNat) 0 := rfl
        rw [e4, rep_step 81 0 hm1 hm2]
        congr 2; omega
      · refine WP.ret ?_
        have : k = n := by omega
        rw [h3, this]; simp
  · intro k hk
    refine WP.bif (fun wh => ?_) (fun wh => ?_)
    · have := of_decide_eq_true wh; dsimp only at this; omega
    · exact hk _ (decide_eq_false (by dsimp only; omega))
/-! ### Walks of so many edges -/
def WalkN (g : List (List Int)) (t : Int) : Nat → Int → Prop
  | 0, x => x = t
  | m + 1, x => ∃ y ∈ atD g x, WalkN g t m y
theorem WalkN.way {g : List (List Int)} {t : Int} : ∀ {m : Nat} {x : Int}, WalkN g t m x → Way g x t
  | 0, x, h => by have h : x = t := h; rw [h]; exact .refl
  | m + 1, x, h => by obtain ⟨y, hy, h⟩ := h; exact Way.head hy h.way
theorem WalkN.step_last {g : List (List Int)} {t c : Int} (hc : c ∈ atD g t) : ∀ {m : Nat} {x : Int}, WalkN g t m x → WalkN g c (m + 1) x
  | 0, x, h => by have h : x = t := h; rw [h]; exact ⟨c, hc, rfl⟩
  | m + 1, x, h => by obtain ⟨y, hy, h⟩ := h; exact ⟨y, hy, h.step_last hc⟩
theorem Way.walk {g : List (List Int)} {x t : Int} (h : Way g x t) : ∃ m, WalkN g t m x := by
  induction h with
  | refl => exact ⟨0, rfl⟩
  | step _ h2 ih => obtain ⟨m, h3⟩ := ih; exact ⟨m + 1, h3.step_last h2⟩
/-- The distances to a function. -/
structure IsDist (g : List (List Int)) (t : Int) (d : List Int) : Prop where
  len : d.length = g.length
  val : ∀ x, inN x g.length → (atD d x = 81 ∧ ∀ m, ¬ WalkN g t m x) ∨ ∃ m : Nat, atD d x = m ∧ m < g.length ∧ WalkN g t m x ∧ ∀ k, k < m → ¬ WalkN g t k x
structure BfsP (g : List (List Int)) (t : Int) (d q : List Int) : Prop where
  len : d.length = g.length
  tin : inN t g.length
  at0 : atD d t = 0
  sound : ∀ x, inN x g.length → atD d x = 81 ∨ ∃ m : Nat, atD d x = m ∧ m < g.length ∧ WalkN g t m x
  chain : ∀ x, inN x g.length → atD d x = 81 ∨ atD d x = 0 ∨ ∃ y, inN y g.length ∧ atD d y = atD d x - 1
  que : ∀ x ∈ q, inN x g.length ∧ atD d x ≠ 81
  sorted : q.Pairwise (fun a b => atD d a ≤ atD d b)
  near : ∀ h r, q = h :: r → ∀ x, inN x g.length → atD d x ≠ 81 → atD d x ≤ atD d h + 1
  done : ∀ x, inN x g.length → atD d x ≠ 81 → x ∉ q → ∀ y, inN y g.length → x ∈ atD g y → atD d y ≠ 81 ∧ atD d y ≤ atD d x + 1
  cnt : q.length + d.count 81 ≤ g.length
/-- All smaller distances occur. -/
theorem chain_list {g : List (List Int)} {d : List Int} (hg : GrP g) (hs : ∀ x, inN x g.length → atD d x = 81 ∨ atD d x = 0 ∨ ∃ y, inN y g.length ∧ atD d y = atD d x - 1) : ∀ (m : Nat) (x : Int), inN x g.length → atD d x = m → m ≤ 80 → ∃ l : List Int, l.length = m + 1 ∧ l.Nodup ∧ ∀ y ∈ l, inN y g.length ∧ atD d y ≤ m ∧ 0 ≤ atD d y
  | 0, x, hx, hd, _ => ⟨[x], rfl, by simp, fun y hy => by rw [one_mem hy]; exact ⟨hx, by omega, by omega⟩⟩
  | m + 1, x, hx, hd, hm => by
    rcases hs x hx with h | h | ⟨y, hy, h⟩
    · omega
    · omega
    · obtain ⟨l, h1, h2, h3⟩ := chain_list hg hs m y hy (by omega) (by omega)
      refine ⟨x :: l, by simp [h1], List.nodup_cons.2 ⟨fun hm' => by have := (h3 x hm').2.1; omega, h2⟩, fun z hz => ?_⟩
      rcases List.mem_cons.1 hz with rfl | hz
      · exact ⟨hx, by omega, by omega⟩
      · have := h3 z hz; exact ⟨this.1, by omega, this.2.2⟩
theorem BfsP.push {g : List (List Int)} (hg : GrP g) {t h y : Int} {d r : List Int} (b : BfsP g t d (h :: r)) (hy : inN y g.length) (hyh : h ∈ atD g y) (h81 : atD d y = 81) :
    okI (atD d h + 1) ∧ BfsP g t (setD d y (atD d h + 1)) (h :: r ++ [y]) ∧ (∀ x, inN x g.length → atD d x ≠ 81 → atD (setD d y (atD d h + 1)) x = atD d x) ∧ atD (setD d y (atD d h + 1)) y = atD d h + 1 ∧ (setD d y (atD d h + 1)).count 81 + 1 = d.count 81 := by
  have hlen := hg.len
  obtain ⟨hh, hh81⟩ := b.que h List.mem_cons_self
  obtain ⟨m, hm1, hm2, hm3⟩ := (b.sound h hh).resolve_left hh81
  have hyd : inN y d.length := by rw [b.len]; exact hy
  obtain ⟨l, hl1, hl2, hl3⟩ := chain_list hg b.chain m h hh hm1 (by omega)
  have hml : m + 1 < g.length := by
    have hyl : y ∉ l := fun hm => by have := (hl3 y hm).2.1; omega
    have := rangeI_length (l := y :: l) (n := g.length) (List.nodup_cons.2 ⟨hyl, hl2⟩) fun z hz => (List.mem_cons.1 hz).elim (fun e => e ▸ hy) fun hz => (hl3 z hz).1
    simp only [List.length_cons] at this
    omega
  have hset : ∀ x, 0 ≤ x → atD (setD d y (atD d h + 1)) x = if x = y then atD d h + 1 else atD d x := fun x hx => atD_setD hyd hx
  have hother : ∀ x, inN x g.length → atD d x ≠ 81 → atD (setD d y (atD d h + 1)) x = atD d x := fun x hx h1 => by rw [hset x hx.1, if_neg (fun e => h1 (by rw [e]; exact h81))]
  have hself : atD (setD d y (atD d h + 1)) y = atD d h + 1 := by rw [hset y hy.1, if_pos rfl]
  have hyt : y ≠ t := fun e => by have := b.at0; rw [← e] at this; omega
  have hval : ∀ x, inN x g.length → atD (setD d y (atD d h + 1)) x ≠ 81 → x = y ∨ (x ≠ y ∧ atD d x ≠ 81) := fun x hx h1 => by
    by_cases e : x = y
    · exact .inl e
    · rw [hset x hx.1, if_neg e] at h1; exact .inr ⟨e, h1⟩
  have hcnt : (setD d y (atD d h + 1)).count 81 + 1 = d.count 81 := by
    unfold setD
    have hlt : y.toNat < d.length := by have := hyd.1; have := hyd.2; omega
    have e1 : d[y.toNat] = 81 := by rw [← h81, ← atD_nat hlt, Int.toNat_of_nonneg hy.1]
    rw [List.count_set hlt, e1]
    have hpos : 0 < d.count 81 := List.count_pos_iff.2 (by rw [← e1]; exact List.getElem_mem hlt)
    have e2 : ((atD d h + 1) == (81 : Int)) = false := by simp; omega
    rw [e2]
    simp; omega
  refine ⟨⟨by omega, by omega⟩, ⟨by rw [length_setD]; exact b.len, b.tin, ?_, fun x hx => ?_, fun x hx => ?_, fun x hx => ?_, ?_, fun h' r' e x hx h1 => ?_, fun x hx h1 hn z hz hxz => ?_, ?_⟩, hother, hself, hcnt⟩
  · rw [hother t b.tin (by rw [b.at0]; decide)]; exact b.at0
  · rw [hset x hx.1]
    by_cases e : x = y
    · rw [if_pos e]
      exact .inr ⟨m + 1, by omega, hml, by rw [e]; exact ⟨h, hyh, hm3⟩⟩
    · rw [if_neg e]; exact b.sound x hx
  · rw [hset x hx.1]
    by_cases e : x = y
    · rw [if_pos e]
      exact .inr (.inr ⟨h, hh, by rw [hother h hh hh81]; omega⟩)
    · rw [if_neg e]
      rcases b.chain x hx with h1 | h1 | ⟨z, hz, h1⟩
      · exact .inl h1
      · exact .inr (.inl h1)
      · by_cases h82 : atD d x = 81
        · exact .inl h82
        · obtain ⟨mx, q1, q2, _⟩ := (b.sound x hx).resolve_left h82
          exact .inr (.inr ⟨z, hz, by rw [hother z hz (by omega)]; exact h1⟩)
  · rcases List.mem_append.1 hx with hx | hx
    · obtain ⟨q1, q2⟩ := b.que x hx
      exact ⟨q1, by rw [hother x q1 q2]; exact q2⟩
    · rw [one_mem hx]
      exact ⟨hy, by rw [hself]; omega⟩
  · refine List.pairwise_append.2 ⟨?_, by simp, fun a ha c hc => ?_⟩
    · refine (List.pairwise_iff_forall_sublist.2 fun {a c} hs => ?_)
      have hac := List.pairwise_iff_forall_sublist.1 b.sorted hs
      have ha := b.que a (hs.subset (by simp))
      have hc := b.que c (hs.subset (by simp))
      rw [hother a ha.1 ha.2, hother c hc.1 hc.2]
      exact hac
    · have ha' := b.que a ha
      rw [one_mem hc, hother a ha'.1 ha'.2, hself]
      exact b.near h r rfl a ha'.1 ha'.2
  · injection e with e1 e2
    subst e1
    rw [hother h hh hh81]
    rcases hval x hx h1 with rfl | ⟨h2, h3⟩
    · rw [hself]; exact Int.le_refl _
    · rw [hother x hx h3]; exact b.near h r rfl x hx h3
  · rcases hval x hx h1 with rfl | ⟨h2, h3⟩
    · exact absurd (List.mem_append_right _ List.mem_cons_self) hn
    · have hxq : x ∉ h :: r := fun hm => hn (List.mem_append_left _ hm)
      obtain ⟨q1, q2⟩ := b.done x hx h3 hxq z hz hxz
      rw [hother z hz q1, hother x hx h3]
      exact ⟨q1, q2⟩
  · have := b.cnt
    simp only [List.length_append, List.length_cons, List.length_nil] at this ⊢
    omega
theorem BfsP.pop {g : List (List Int)} {t h : Int} {d r : List Int} (b : BfsP g t d (h :: r)) (hd : ∀ y, inN y g.length → h ∈ atD g y → atD d y ≠ 81 ∧ atD d y ≤ atD d h + 1) : BfsP g t d r := by
  obtain ⟨hs1, hs2⟩ := List.pairwise_cons.1 b.sorted
  refine ⟨b.len, b.tin, b.at0, b.sound, b.chain, fun x hx => b.que x (List.mem_cons_of_mem _ hx), hs2, fun h' r' e x hx h1 => ?_, fun x hx h1 hn y hy hxy => ?_, ?_⟩
  · have := b.near h r rfl x hx h1
    have := hs1 h' (by rw [e]; exact List.mem_cons_self)
    omega
  · by_cases hxh : x = h
    · subst hxh; exact hd y hy hxy
    · exact b.done x hx h1 (fun hm => (List.mem_cons.1 hm).elim hxh hn) y hy hxy
  · have := b.cnt
    simp only [List.length_cons] at this
    omega
theorem BfsP.dist {g : List (List Int)} (hg : GrP g) {t : Int} (ht : inN t g.length) {d : List Int} (b : BfsP g t d []) : IsDist g t d := by
  have key : ∀ (m : Nat) (x : Int), inN x g.length → WalkN g t m x → atD d x ≠ 81 ∧ atD d x ≤ m := fun m => by
    induction m with
    | zero =>
      intro x hx h
      have h : x = t := h
      rw [h, b.at0]
      exact ⟨by decide, Int.le_refl _⟩
    | succ m ih =>
      rintro x hx ⟨y, hy, h⟩
      have hyn := hg.rng x hx y hy
      obtain ⟨h1, h2⟩ := ih y hyn h
      obtain ⟨h3, h4⟩ := b.done y hyn h1 (by simp) x hx hy
      exact ⟨h3, by omega⟩
  refine ⟨b.len, fun x hx => ?_⟩
  rcases b.sound x hx with h | ⟨m, h1, h2, h3⟩
  · exact .inl ⟨h, fun m hm => (key m x hx hm).1 h⟩
  · exact .inr ⟨m, h1, h2, h3, fun k hk hw => by have := (key k x hx hw).2; omega⟩
theorem distances_sp (g : List (List Int)) (hg : GrP g) (t : Int) (ht : inN t g.length) : WP (cycle_distances g t) (IsDist g t) := by
  have hlen := hg.len
  unfold cycle_distances
  refine WP.call (turn27_sp g hg) ?_
  rintro _ rfl
  refine WP.call (repeat28_sp _ (by omega)) ?_
  rintro _ rfl
  rw [Int.toNat_natCast]
  have hrep : ∀ x, inN x g.length → atD (List.replicate g.length (81 : Int)) x = 81 := fun x hx => by
    have hlt : x.toNat < (List.replicate g.length (81 : Int)).length := by simp; have := hx.1; have := hx.2; omega
    rw [show x = (x.toNat : Int) from (Int.toNat_of_nonneg hx.1).symm, atD_nat hlt]
    simp
  have ht' : 0 ≤ t ∧ t < ((List.replicate g.length (81 : Int)).length : Int) := by rw [List.length_replicate]; exact ht
  refine WP.chk ht' fun _ => ?_
  have hs : ∀ x, inN x g.length → atD (setD (List.replicate g.length (81 : Int)) t 0) x = if x = t then 0 else 81 := fun x hx => by
    rw [atD_setD ht' hx.1, hrep x hx]
  refine WP.loop (fun z => BfsP g t z.1 z.2) (fun z => z.2.length + 2 * z.1.count 81) ⟨by rw [length_setD, List.length_replicate], ht, by rw [hs t ht, if_pos rfl], fun x hx => ?_, fun x hx => ?_, fun x hx => ?_, by simp, fun h r e x hx h1 => ?_, fun x hx h1 hn => ?_, ?_⟩ ?_
  · rw [hs x hx]
    by_cases e : x = t
    · rw [if_pos e]; exact .inr ⟨0, rfl, by omega, e⟩
    · rw [if_neg e]; exact .inl rfl
  · rw [hs x hx]
    by_cases e : x = t
    · rw [if_pos e]; exact .inr (.inl rfl)
    · rw [if_neg e]; exact .inl rfl
  · rw [one_mem hx, hs t ht, if_pos rfl]
    exact ⟨ht, by decide⟩
  · injection e with e1 _
    subst e1
    rw [hs x hx] at h1 ⊢
    rw [hs _ ht, if_pos rfl]
    by_cases e : x = t
    · rw [if_pos e]; decide
    · rw [if_neg e] at h1; exact absurd rfl h1
  · rw [hs x hx] at h1
    by_cases e : x = t
    · exact absurd (by rw [e]; exact List.mem_cons_self) hn
    · rw [if_neg e] at h1; exact absurd rfl h1
  · unfold setD
    have hlt : t.toNat < (List.replicate g.length (81 : Int)).length := by have := ht'.1; have := ht'.2; omega
    rw [List.count_set hlt]
    simp
    omega
  rintro again ⟨d, q⟩ b ih
  dsimp only at b ih ⊢
  refine WP.bif (fun wh => ?_) (fun wh => ?_) <;> (try simp only [wpH, ne_eq] at wh)
  · match q, wh, b, ih with
    | [], wh, _, _ => exact absurd wh (by simp)
    | h :: r, _, b, ih =>
    have e0 : atD (h :: r) 0 = h := rfl
    obtain ⟨hh, hh81⟩ := b.que h List.mem_cons_self
    have hht : inN h (turnS g).length := by rw [turnS_length]; exact hh
    have hrl := (hg.turn.row h hht).length
    rw [e0]
    refine WP.chk ⟨by omega, by simp⟩ fun _ => WP.chk hht fun _ => ?_
    refine WP.loop (fun z => 0 ≤ z.1 ∧ z.1 ≤ (atD (turnS g) h).length ∧ ∃ r2, z.2.2 = h :: r2 ∧ BfsP g t z.2.1 (h :: r2) ∧ (h :: r2).length + 2 * z.2.1.count 81 ≤ (h :: r).length + 2 * d.count 81 ∧ ∀ y ∈ (atD (turnS g) h).take z.1.toNat, atD z.2.1 y ≠ 81 ∧ atD z.2.1 y ≤ atD z.2.1 h + 1) (fun z => (atD (turnS g) h).length - z.1.toNat) ⟨Int.le_refl _, by dsimp only; omega, r, rfl, b, Nat.le_refl _, fun y hy => by simp at hy⟩ ?_
    rintro again2 ⟨k, d2, q2⟩ ⟨h1, h2, r2, rfl, b2, h3, h4⟩ ih2
    dsimp only at h1 h2 b2 h3 h4 ih2 ⊢
    obtain ⟨_, hh81'⟩ := b2.que h List.mem_cons_self
    refine WP.bif (fun wh => ?_) (fun wh => ?_) <;> (try simp only [wpH, ne_eq] at wh)
    · have hk : inN k (atD (turnS g) h).length := ⟨h1, wh⟩
      have hm : atD (atD (turnS g) h) k ∈ atD (turnS g) h := atD_mem hk
      have hy := hg.turn.rng h hht _ hm
      rw [turnS_length] at hy
      have hyh := ((mem_turnS hh).1 hm).2
      have htk := take_atD hk
      generalize atD (atD (turnS g) h) k = y at hm hy hyh htk ⊢
      have hyd : inN y d2.length := by rw [b2.len]; exact hy
      refine WP.chk hk fun _ => WP.chk hyd fun _ => ?_
      refine WP.bif (fun wh => ?_) (fun wh => ?_) <;> (try simp only [wpH, ne_eq] at wh)
      · obtain ⟨p1, p2, p3, p4, p5⟩ := b2.push hg hy hyh wh
        have e1 : atD (h :: r2) 0 = h := rfl
        have hc := b2.cnt
        simp only [List.length_cons] at hc
        rw [e1]
        refine WP.chk ⟨by omega, by simp⟩ fun _ => WP.chk (by rw [b2.len]; exact hh) fun _ => WP.chk p1 fun _ => WP.chk hyd fun _ => WP.chk (by simp only [List.length_cons, List.length_nil]; omega) fun _ => WP.chk ⟨by omega, by omega⟩ fun _ => ?_
        refine ih2 _ ⟨by dsimp only; omega, by dsimp only; omega, r2 ++ [y], rfl, p2, ?_, fun z hz => ?_⟩ (by dsimp only; omega)
        · dsimp only
          simp only [List.length_cons, List.length_append, List.length_nil] at h3 ⊢
          omega
        · dsimp only at hz ⊢
          rw [htk] at hz
          rw [p3 h hh hh81']
          rcases List.mem_append.1 hz with hz | hz
          · have hzn := hg.turn.rng h hht z (List.mem_of_mem_take hz)
            rw [turnS_length] at hzn
            obtain ⟨q1, q2⟩ := h4 z hz
            rw [p3 z hzn q1]
            exact ⟨q1, q2⟩
          · rw [one_mem hz, p4]
            obtain ⟨m, hm1, hm2, _⟩ := (b2.sound h hh).resolve_left hh81'
            exact ⟨by
              have := (p2.sound y hy)
              rw [p4] at this
              rcases this with h8 | ⟨m', q1, q2, _⟩
              · have := (p2.que y (List.mem_append_right _ List.mem_cons_self)).2
                rw [p4] at this; exact this
              · omega, Int.le_refl _⟩
      · refine WP.chk ⟨by omega, by omega⟩ fun _ => ?_
        refine ih2 _ ⟨by dsimp only; omega, by dsimp only; omega, r2, rfl, b2, h3, fun z hz => ?_⟩ (by dsimp only; omega)
        dsimp only at hz
        rw [htk] at hz
        rcases List.mem_append.1 hz with hz | hz
        · exact h4 z hz
        · rw [one_mem hz]
          exact ⟨wh, b2.near h r2 rfl y hy wh⟩
    · rw [take_all (by omega)] at h4
      refine WP.chk ⟨by omega, by simp only [List.length_cons]; omega⟩ fun _ => ?_
      refine ih _ (b2.pop fun y hy hyh => h4 y ((mem_turnS hh).2 ⟨hy, hyh⟩)) ?_
      show r2.length + 2 * d2.count 81 < (h :: r).length + 2 * d.count 81
      simp only [List.length_cons] at h3 ⊢
      omega
  · have : q = [] := List.length_eq_zero_iff.1 (by omega)
    subst this
    exact WP.ret (b.dist hg ht)
end Go.Proofs.YtmefipdgohflmaaDoor.Q
