/- The machine: regions that draw their order, the law. -/
import Derived.Test.YtjfkdjlmajfljaaDoorDrawn
namespace Go.Proofs.YtjfkdjlmajfljaaDoor
open Go.RowKit

/-! ### Updates -/
theorem hpUpd_key {b : Nat} : ∀ {u : List (Nat × Option Blk)} {hp : Hp}, b ∉ keysU u → hpUpd hp u b = hp b
  | [], _, _ => rfl
  | (c, x) :: r, hp, h => by
    have h1 : b ≠ c := fun e => h (by subst e; exact List.mem_cons_self)
    have h2 : b ∉ keysU r := fun e => h (List.mem_cons_of_mem _ e)
    show hpUpd (hpSet hp c x) r b = hp b
    rw [hpUpd_key h2]
    simp [hpSet, h1]
theorem hpUpd_congr {b : Nat} : ∀ {u : List (Nat × Option Blk)} {hp hp' : Hp}, hp b = hp' b → hpUpd hp u b = hpUpd hp' u b
  | [], _, _, h => h
  | (c, x) :: r, hp, hp', h => hpUpd_congr (u := r) (by simp only [hpSet]; split <;> first | rfl | exact h)
theorem hpSet_comm {hp : Hp} {b c : Nat} {x y : Option Blk} (h : b ≠ c) : hpSet (hpSet hp b x) c y = hpSet (hpSet hp c y) b x := by
  funext d
  simp only [hpSet]
  by_cases h1 : d = c
  · subst h1; rw [if_pos rfl, if_neg (Ne.symm h), if_pos rfl]
  · rw [if_neg h1]
    by_cases h2 : d = b
    · subst h2; rw [if_pos rfl, if_pos rfl]
    · rw [if_neg h2, if_neg h2, if_neg h1]
theorem hpUpd_set {b : Nat} {x : Option Blk} : ∀ {u : List (Nat × Option Blk)} {hp : Hp}, b ∉ keysU u → hpUpd (hpSet hp b x) u = hpSet (hpUpd hp u) b x
  | [], _, _ => rfl
  | (c, y) :: r, hp, h => by
    have h1 : b ≠ c := fun e => h (by subst e; exact List.mem_cons_self)
    have h2 : b ∉ keysU r := fun e => h (List.mem_cons_of_mem _ e)
    show hpUpd (hpSet (hpSet hp b x) c y) r = _
    rw [hpSet_comm h1, hpUpd_set h2]
    rfl
theorem hpUpd_comm : ∀ {u v : List (Nat × Option Blk)} {hp : Hp}, disjN (keysU u) (keysU v) = true → hpUpd (hpUpd hp u) v = hpUpd (hpUpd hp v) u
  | [], _, _, _ => rfl
  | (b, x) :: r, v, hp, h => by
    have hb : b ∉ keysU v := disjN_ok h b (by exact List.mem_cons_self)
    have hr : disjN (keysU r) (keysU v) = true := by
      have h : disjN (b :: keysU r) (keysU v) = true := h
      unfold disjN at h
      split at h
      · cases h
      · exact h
    show hpUpd (hpUpd (hpSet hp b x) r) v = hpUpd (hpSet (hpUpd hp v) b x) r
    rw [hpUpd_comm hr, hpUpd_set hb]
theorem put_comm {sl : Sl} {d e : Option Tmp} {r q : SV} (h : sameDst d e = false) : (sl.put d r).put e q = (sl.put e q).put d r := by
  funext t
  simp only [Sl.put]
  by_cases h1 : e = some t
  · rw [if_pos h1]
    by_cases h2 : d = some t
    · subst h1; subst h2; rw [sameDst, Nat.beq_refl] at h; cases h
    · rw [if_neg h2, if_pos h1]
  · rw [if_neg h1, if_neg h1]

/-! ### The state after a set of operations -/
section
open Classical
noncomputable def runS (D : Nat → Prop) : Nat → List It → Sl → Sl
  | _, [], sl => sl
  | n, it :: r, sl => runS D (n + 1) r (if D n then sl.put it.dst it.r else sl)
noncomputable def runH (D : Nat → Prop) : Nat → List It → Hp → Hp
  | _, [], hp => hp
  | n, it :: r, hp => runH D (n + 1) r (if D n then hpUpd hp it.upd else hp)
def allS : List It → Sl → Sl
  | [], sl => sl
  | it :: r, sl => allS r (sl.put it.dst it.r)
def allH : List It → Hp → Hp
  | [], hp => hp
  | it :: r, hp => allH r (hpUpd hp it.upd)

/-- What is known of the operations from place n on, that are done (or are not). -/
def AtD (D : Nat → Prop) (p : It → Prop) : Nat → List It → Prop
  | _, [] => True
  | n, it :: r => (D n → p it) ∧ AtD D p (n + 1) r
theorem AtD.of {D : Nat → Prop} {p : It → Prop} : ∀ {l : List It} {n : Nat}, (∀ m x, l[m]? = some x → D (n + m) → p x) → AtD D p n l
  | [], _, _ => trivial
  | it :: r, n, h => ⟨fun hd => h 0 it rfl hd, AtD.of fun m x hx hd => h (m + 1) x (by simpa using hx) (by rwa [show n + (m + 1) = n + 1 + m by omega])⟩

variable {D : Nat → Prop}
theorem runS_append : ∀ {a b : List It} {n : Nat} {sl : Sl}, runS D n (a ++ b) sl = runS D (n + a.length) b (runS D n a sl)
  | [], b, n, sl => rfl
  | it :: r, b, n, sl => by
    show runS D (n + 1) (r ++ b) _ = _
    rw [runS_append, List.length_cons, show n + (r.length + 1) = n + 1 + r.length by omega]
    rfl
theorem runH_append : ∀ {a b : List It} {n : Nat} {hp : Hp}, runH D n (a ++ b) hp = runH D (n + a.length) b (runH D n a hp)
  | [], b, n, hp => rfl
  | it :: r, b, n, hp => by
    show runH D (n + 1) (r ++ b) _ = _
    rw [runH_append, List.length_cons, show n + (r.length + 1) = n + 1 + r.length by omega]
    rfl
theorem runS_other {t : Nat} : ∀ {l : List It} {n : Nat} {sl : Sl}, AtD D (fun x => x.dst ≠ some t) n l → runS D n l sl t = sl t
  | [], _, _, _ => rfl
  | it :: r, n, sl, h => by
    show runS D (n + 1) r _ t = _
    rw [runS_other h.2]
    split
    · rename_i hd; simp [Sl.put, h.1 hd]
    · rfl
theorem runS_all {t : Nat} : ∀ {l : List It} {n : Nat} {sl sl' : Sl}, AtD (fun j => ¬ D j) (fun x => x.dst ≠ some t) n l → sl t = sl' t → runS D n l sl t = allS l sl' t
  | [], _, _, _, _, h => h
  | it :: r, n, sl, sl', h, he => by
    show runS D (n + 1) r _ t = allS r _ t
    refine runS_all h.2 ?_
    split
    · simp [Sl.put, he]
    · rename_i hd; simp [Sl.put, h.1 hd, he]
theorem runH_other {b : Nat} : ∀ {l : List It} {n : Nat} {hp : Hp}, AtD D (fun x => b ∉ keysU x.upd) n l → runH D n l hp b = hp b
  | [], _, _, _ => rfl
  | it :: r, n, hp, h => by
    show runH D (n + 1) r _ b = _
    rw [runH_other h.2]
    split
    · rename_i hd; exact hpUpd_key (h.1 hd)
    · rfl
theorem runH_all {b : Nat} : ∀ {l : List It} {n : Nat} {hp hp' : Hp}, AtD (fun j => ¬ D j) (fun x => b ∉ keysU x.upd) n l → hp b = hp' b → runH D n l hp b = allH l hp' b
  | [], _, _, _, _, h => h
  | it :: r, n, hp, hp', h, he => by
    show runH D (n + 1) r _ b = allH r _ b
    refine runH_all h.2 ?_
    split
    · exact hpUpd_congr he
    · rename_i hd; rw [hpUpd_key (h.1 hd)]; exact he
theorem runS_comm {it : It} : ∀ {l : List It} {n : Nat} {sl : Sl}, AtD D (fun x => sameDst it.dst x.dst = false) n l → runS D n l (sl.put it.dst it.r) = (runS D n l sl).put it.dst it.r
  | [], _, _, _ => rfl
  | x :: r, n, sl, h => by
    show runS D (n + 1) r _ = (runS D (n + 1) r _).put it.dst it.r
    split
    · rename_i hd; rw [put_comm (h.1 hd), runS_comm h.2]
    · rw [runS_comm h.2]
theorem runH_comm {it : It} : ∀ {l : List It} {n : Nat} {hp : Hp}, AtD D (fun x => disjN (keysU it.upd) (keysU x.upd) = true) n l → runH D n l (hpUpd hp it.upd) = hpUpd (runH D n l hp) it.upd
  | [], _, _, _ => rfl
  | x :: r, n, hp, h => by
    show runH D (n + 1) r _ = hpUpd (runH D (n + 1) r _) it.upd
    split
    · rename_i hd; rw [hpUpd_comm (h.1 hd), runH_comm h.2]
    · rw [runH_comm h.2]
theorem runS_iff {D' : Nat → Prop} : ∀ {l : List It} {n : Nat} {sl : Sl}, (∀ m, m < l.length → (D (n + m) ↔ D' (n + m))) → runS D n l sl = runS D' n l sl
  | [], _, _, _ => rfl
  | x :: r, n, sl, h => by
    have h0 : D n = D' n := propext (h 0 (by simp))
    show runS D (n + 1) r _ = runS D' (n + 1) r _
    rw [h0]
    exact runS_iff fun m hm => by have := h (m + 1) (by simpa using hm); rwa [show n + (m + 1) = n + 1 + m by omega] at this
theorem runH_iff {D' : Nat → Prop} : ∀ {l : List It} {n : Nat} {hp : Hp}, (∀ m, m < l.length → (D (n + m) ↔ D' (n + m))) → runH D n l hp = runH D' n l hp
  | [], _, _, _ => rfl
  | x :: r, n, hp, h => by
    have h0 : D n = D' n := propext (h 0 (by simp))
    show runH D (n + 1) r _ = runH D' (n + 1) r _
    rw [h0]
    exact runH_iff fun m hm => by have := h (m + 1) (by simpa using hm); rwa [show n + (m + 1) = n + 1 + m by omega] at this
theorem runS_full : ∀ {l : List It} {n : Nat} {sl : Sl}, (∀ m, m < l.length → D (n + m)) → runS D n l sl = allS l sl
  | [], _, _, _ => rfl
  | x :: r, n, sl, h => by
    show runS D (n + 1) r _ = allS r _
    rw [if_pos (show D n from h 0 (by simp))]
    exact runS_full fun m hm => by have := h (m + 1) (by simpa using hm); rwa [show n + (m + 1) = n + 1 + m by omega] at this
theorem runH_full : ∀ {l : List It} {n : Nat} {hp : Hp}, (∀ m, m < l.length → D (n + m)) → runH D n l hp = allH l hp
  | [], _, _, _ => rfl
  | x :: r, n, hp, h => by
    show runH D (n + 1) r _ = allH r _
    rw [if_pos (show D n from h 0 (by simp))]
    exact runH_full fun m hm => by have := h (m + 1) (by simpa using hm); rwa [show n + (m + 1) = n + 1 + m by omega] at this
theorem runS_on {it : It} {n : Nat} {sl : Sl} (h : D n) : runS D n [it] sl = sl.put it.dst it.r := if_pos h
theorem runH_on {it : It} {n : Nat} {hp : Hp} (h : D n) : runH D n [it] hp = hpUpd hp it.upd := if_pos h
theorem runS_none : ∀ {l : List It} {n : Nat} {sl : Sl}, (∀ m, ¬ D m) → runS D n l sl = sl
  | [], _, _, _ => rfl
  | x :: r, n, sl, h => by
    show runS D (n + 1) r _ = sl
    rw [if_neg (h n)]
    exact runS_none h
theorem runH_none : ∀ {l : List It} {n : Nat} {hp : Hp}, (∀ m, ¬ D m) → runH D n l hp = hp
  | [], _, _, _ => rfl
  | x :: r, n, hp, h => by
    show runH D (n + 1) r _ = hp
    rw [if_neg (h n)]
    exact runH_none h
theorem upd_fresh {nb : Nat} : ∀ {u : List (Nat × Option Blk)} {hp : Hp}, updMent nb u = false → hp nb = none ∧ UnmentB hp nb → hpUpd hp u nb = none ∧ UnmentB (hpUpd hp u) nb
  | [], _, _, h => h
  | (b, x) :: r, hp, hu, h => by
    unfold updMent at hu
    split at hu
    · cases hu
    · rename_i hb
      have hb : nb ≠ b := fun e => by subst e; rw [Nat.beq_refl] at hb; cases hb
      have hstep : ∀ (hx : ∀ e cells, x = some (.bx e cells) → cells.any (AV.ment nb) = false), hpSet hp b x nb = none ∧ UnmentB (hpSet hp b x) nb := fun hx => by
        refine ⟨by simp [hpSet, hb, h.1], fun c e cells hc => ?_⟩
        simp only [hpSet] at hc
        split at hc
        · exact hx e cells hc
        · exact h.2 c e cells hc
      split at hu
      · rename_i e cells
        split at hu
        · cases hu
        · rename_i hm
          refine upd_fresh (u := r) hu (hstep fun e' cells' hx => ?_)
          simp only [Option.some.injEq, Blk.bx.injEq] at hx
          rw [← hx.2]; exact hm
      · rename_i hx
        exact upd_fresh (u := r) hu (hstep fun e' cells' h => absurd h (hx e' cells'))
theorem run_fresh {nb : Nat} : ∀ {l : List It} {n : Nat} {hp : Hp} {sl : Sl}, AtD D (fun x => x.ment nb = false) n l → (hp nb = none ∧ UnmentB hp nb) → UnmentS sl nb → (runH D n l hp nb = none ∧ UnmentB (runH D n l hp) nb) ∧ UnmentS (runS D n l sl) nb
  | [], _, _, _, _, h1, h2 => ⟨h1, h2⟩
  | x :: r, n, hp, sl, h, h1, h2 => by
    show (runH D (n + 1) r _ nb = none ∧ UnmentB (runH D (n + 1) r _) nb) ∧ UnmentS (runS D (n + 1) r _) nb
    by_cases hd : D n
    · rw [if_pos hd, if_pos hd]
      have hm : x.ment nb = false := h.1 hd
      unfold It.ment at hm
      split at hm
      · cases hm
      · rename_i hr
        refine run_fresh h.2 (upd_fresh hm h1) fun t => ?_
        simp only [Sl.put]
        split
        · exact hr
        · exact h2 t
    · rw [if_neg hd, if_neg hd]
      exact run_fresh h.2 h1 h2
end

/-! ### The trace -/
section
variable (P : Program) (N k : Nat)
def stp (s : St) (o : Oper) : Option Eff → St
  | some ρ => s.eff o.dst ρ
  | none => s.put o.dst uS
def StepC (all : List Oper) (o : Oper) (s : St) : Option Eff → Prop
  | some ρ => StepOk P N k o s ρ ∧ (o.guard = none ∨ ∃ j want d, o.guard = some (j, want) ∧ (all[j]?).bind (·.dst) = some d ∧ lookS s.slots d = bS want)
  | none => dstB N o.dst = true ∧ ∃ j want d, o.guard = some (j, want) ∧ (all[j]?).bind (·.dst) = some d ∧ ((∃ b, lookS s.slots d = bS b ∧ b ≠ want) ∨ lookS s.slots d = uS)
def Trc (all : List Oper) : List Oper → St → List (Option Eff) → St → Prop
  | [], s, [], s' => s = s'
  | o :: r, s, e :: τ, s' => StepC P N k all o s e ∧ Trc all r (stp s o e) τ s'
  | _, _, _, _ => False
end
section
variable {P : Program} {N k : Nat} {all : List Oper}
theorem TR.trc {K : St → List (Option Eff) → Prop} : ∀ {l : List Oper} {s : St} {τ : List (Option Eff)}, TR P N k all K l s τ → ∃ τ' s', Trc P N k all l s τ' s' ∧ K s' (τ'.reverse ++ τ)
  | [], s, τ, h => ⟨[], s, rfl, h⟩
  | o :: r, s, τ, h => by
    have hgo : ∀ e, StepC P N k all o s e → TR P N k all K r (stp s o e) (e :: τ) → ∃ τ' s', Trc P N k all (o :: r) s τ' s' ∧ K s' (τ'.reverse ++ τ) := fun e h1 h2 => by
      obtain ⟨τ', s', h3, h4⟩ := TR.trc h2
      exact ⟨e :: τ', s', ⟨h1, h3⟩, by simpa using h4⟩
    unfold TR at h
    cases hg : o.guard with
    | none =>
      rw [hg] at h
      obtain ⟨ρ, h1, h2⟩ := h
      exact hgo (some ρ) ⟨h1, .inl hg⟩ h2
    | some jw =>
      obtain ⟨j, want⟩ := jw
      rw [hg] at h
      obtain ⟨d, h1, ⟨b, h2, h3, h4⟩ | ⟨h2, h5, h6⟩⟩ := h
      · by_cases hb : b = want
        · obtain ⟨ρ, h5, h6⟩ := h3 hb
          exact hgo (some ρ) ⟨h5, .inr ⟨j, want, d, hg, h1, by rw [← hb]; exact h2⟩⟩ h6
        · obtain ⟨h5, h6⟩ := h4 hb
          exact hgo none ⟨h5, j, want, d, hg, h1, .inl ⟨b, h2, hb⟩⟩ h6
      · exact hgo none ⟨h5, j, want, d, hg, h1, .inr h2⟩ h6
theorem stp_sl (s : St) (o : Oper) (e : Option Eff) : (stp s o e).sl = s.sl.put (itOf all o e).dst (itOf all o e).r := by
  cases e with
  | none => exact St.put_sl _ _ _
  | some ρ => exact St.eff_sl _ _ _
theorem stp_hp (s : St) (o : Oper) (e : Option Eff) : (stp s o e).hp = hpUpd s.hp (itOf all o e).upd := by
  cases e with
  | none => show (s.put o.dst uS).hp = s.hp; unfold St.put; cases o.dst <;> rfl
  | some ρ => exact St.eff_hp _ _ _
theorem Trc.fin : ∀ {l : List Oper} {s s' : St} {τ : List (Option Eff)}, Trc P N k all l s τ s' → s'.sl = allS (itsOf all l τ) s.sl ∧ s'.hp = allH (itsOf all l τ) s.hp ∧ (itsOf all l τ).length = l.length
  | [], s, s', [], h => by cases h; exact ⟨rfl, rfl, rfl⟩
  | o :: r, s, s', e :: τ, h => by
    obtain ⟨h1, h2, h3⟩ := Trc.fin h.2
    refine ⟨?_, ?_, by show _ + 1 = _ + 1; rw [h3]⟩
    · rw [h1, stp_sl (all := all)]; rfl
    · rw [h2, stp_hp (all := all)]; rfl
  | [], _, _, _ :: _, h => h.elim
  | _ :: _, _, _, [], h => h.elim
/-- Each operation, with the state ahead of it. -/
theorem Trc.at_ : ∀ {l : List Oper} {s s' : St} {τ : List (Option Eff)} {i : Nat} {o : Oper}, Trc P N k all l s τ s' → l[i]? = some o →
    ∃ e si pre post, itsOf all l τ = pre ++ itOf all o e :: post ∧ pre.length = i ∧ StepC P N k all o si e ∧ si.sl = allS pre s.sl ∧ si.hp = allH pre s.hp
  | [], _, _, _, _, _, _, h => by simp at h
  | x :: r, s, s', e :: τ, 0, o, h, ho => by
    simp only [List.getElem?_cons_zero, Option.some.injEq] at ho
    subst ho
    exact ⟨e, s, [], _, rfl, rfl, h.1, rfl, rfl⟩
  | x :: r, s, s', e :: τ, i + 1, o, h, ho => by
    simp only [List.getElem?_cons_succ] at ho
    obtain ⟨e', si, pre, post, h1, h2, h3, h4, h5⟩ := Trc.at_ h.2 ho
    refine ⟨e', si, itOf all x e :: pre, post, ?_, by simp [h2], h3, ?_, ?_⟩
    · show itOf all x e :: itsOf all r τ = _; rw [h1]; rfl
    · rw [h4, stp_sl (all := all)]; rfl
    · rw [h5, stp_hp (all := all)]; rfl
  | _ :: _, _, _, [], _, _, h, _ => h.elim
end

/-! ### The check -/
theorem earlier_ok {an : List Nat} {it : It} : ∀ {done : List It} {n : Nat}, done.length = n → earlierB an it done n = true → ∀ i a, i < n → done[n - 1 - i]? = some a → (i ∈ an ∨ free a it = true) ∧ noneMent a it.new = true
  | [], n, hl, _, i, a, hi, _ => by simp at hl; omega
  | x :: r, n, hl, h, i, a, hi, ha => by
    unfold earlierB at h
    simp only [Bool.and_eq_true] at h
    obtain ⟨⟨h1, h2⟩, h3⟩ := h
    rw [List.length_cons] at hl
    by_cases hin : i = n - 1
    · rw [show n - 1 - i = 0 by omega] at ha
      simp only [List.getElem?_cons_zero, Option.some.injEq] at ha
      subst ha
      refine ⟨?_, h2⟩
      split at h1
      · rename_i hm; exact .inl (by rw [hin]; exact memN_iff.1 hm)
      · exact .inr h1
    · rw [show n - 1 - i = (n - 1 - 1 - i) + 1 by omega, List.getElem?_cons_succ] at ha
      exact earlier_ok (by omega) h3 i a (by omega) ha
theorem pairs_ok {s0 : St} {k : Nat} {A : List (List Nat)} {len : Nat} : ∀ {r done its : List It} {n : Nat}, done.length = n → its = done.reverse ++ r → pairsB s0 k A len r done n = true →
    ∀ (j : Nat) (b : It), n ≤ j → its[j]? = some b → b.new.all (s0.freshB k) = true ∧ ∀ (i : Nat) (a : It), i < j → its[i]? = some a → (i ∈ lookL A (len - 1 - j) ∨ free a b = true) ∧ noneMent a b.new = true
  | [], done, its, n, hl, he, _, j, b, hj, hb => by
    subst he
    rw [List.append_nil, List.getElem?_eq_none (by simp; omega)] at hb
    cases hb
  | it :: r, done, its, n, hl, he, h, j, b, hj, hb => by
    unfold pairsB at h
    simp only [Bool.and_eq_true] at h
    obtain ⟨⟨h1, h2⟩, h3⟩ := h
    rcases Nat.eq_or_lt_of_le hj with hjn | hjn
    · subst hjn
      have : b = it := by
        rw [he, List.getElem?_append_right (by simp; omega)] at hb
        simpa [hl] using hb.symm
      subst this
      refine ⟨h2, fun i a hi ha => earlier_ok hl h1 i a hi ?_⟩
      rw [he, List.getElem?_append_left (by simp; omega), List.getElem?_reverse (by omega), hl] at ha
      exact ha
    · exact pairs_ok (r := r) (done := it :: done) (n := n + 1) (by simp [hl]) (by rw [he]; simp) h3 j b hjn hb
theorem blt_lt {a b : Nat} (h : Nat.blt a b = true) : a < b := by rwa [Nat.blt_eq] at h
theorem acyc_ok : ∀ {r : List Oper} {n : Nat}, acycB r n = true → ∀ i o, r[i]? = some o → ∀ e ∈ o.after.toList, Region.binds .any e = true → e.on < n + i
  | [], _, _, i, o, h, _, _, _ => by simp at h
  | x :: r, n, h, 0, o, ho, e, he, hb => by
    simp only [List.getElem?_cons_zero, Option.some.injEq] at ho
    subst ho
    unfold acycB at h
    simp only [Bool.and_eq_true] at h
    have := List.all_eq_true.1 h.1 e he
    rw [hb] at this
    have := blt_lt this
    omega
  | x :: r, n, h, i + 1, o, ho, e, he, hb => by
    simp only [List.getElem?_cons_succ] at ho
    unfold acycB at h
    simp only [Bool.and_eq_true] at h
    have := acyc_ok h.2 i o ho e he hb
    omega
structure DrawOk (l : List Oper) (its : List It) (s0 : St) (k : Nat) : Prop where
  ac : acyclicB l = true
  pair : ∀ (i j : Nat) (a b : It), i < j → its[i]? = some a → its[j]? = some b → (Anc l j i ∨ free a b = true) ∧ noneMent a b.new = true
  fresh : ∀ (j : Nat) (b : It), its[j]? = some b → b.new.all (s0.freshB k) = true
theorem drawB_ok {l : List Oper} {s0 : St} {k : Nat} {τ : List (Option Eff)} (hlen : (itsOf l l τ).length = l.length) (h : drawB l s0 k τ = true) : DrawOk l (itsOf l l τ) s0 k := by
  unfold drawB at h
  simp only [Bool.and_eq_true] at h
  have hac : ∀ i o, l[i]? = some o → ∀ e ∈ o.after.toList, Region.binds .any e = true → e.on < i := fun i o ho e he hb => by
    have := acyc_ok h.1 i o ho e he hb
    omega
  have hA := ancs_ok hac l [] 0 (fun i => by rw [Nat.zero_add]) ⟨rfl, fun i x hi _ => absurd hi (by omega)⟩
  rw [Nat.zero_add] at hA
  have hp := pairs_ok (r := itsOf l l τ) (done := []) (its := itsOf l l τ) (n := 0) rfl rfl h.2
  refine ⟨?_, fun i j a b hij ha hb => ?_, fun j b hb => (hp j b (by omega) hb).1⟩
  · unfold acyclicB
    refine List.all_eq_true.2 fun i hi => ?_
    rw [List.getElem?_eq_getElem (List.mem_range.1 hi)]
    refine Array.all_eq_true'.2 fun e he => ?_
    cases hb : Region.binds .any e with
    | false => rfl
    | true =>
      have := hac i _ (List.getElem?_eq_getElem (List.mem_range.1 hi)) e (by simpa using he) hb
      simpa using this
  · obtain ⟨h1, h2⟩ := (hp j b (by omega) hb).2 i a hij ha
    refine ⟨?_, h2⟩
    rcases h1 with h1 | h1
    · refine .inl (hA.2 j i ?_ h1)
      rw [← hlen]
      rcases Nat.lt_or_ge j (itsOf l l τ).length with h | h
      · exact h
      · rw [List.getElem?_eq_none h] at hb; cases hb
    · exact .inr h1

theorem free_ok {a b : It} (h : free a b = true) : hasDst b.rd a.dst = false ∧ hasDst a.rd b.dst = false ∧ sameDst a.dst b.dst = false ∧ disjN (keysU a.upd) (keysU b.upd) = true ∧ disjN (keysU a.upd) (keysN b.need) = true ∧ disjN (keysU b.upd) (keysN a.need) = true ∧ noneMent b a.new = true := by
  unfold free at h
  simp only [Bool.and_eq_true, Bool.not_eq_true'] at h
  exact ⟨h.1.1.1.1.1.1, h.1.1.1.1.1.2, h.1.1.1.1.2, h.1.1.1.2, h.1.1.2, h.1.2, h.2⟩
theorem hasDst_ok {l : List Nat} {d : Option Tmp} (h : hasDst l d = false) : ∀ t ∈ l, d ≠ some t := fun t ht e => by
  subst e
  exact memN_not h ht

theorem AllAt.of {p : Nat → Oper → Prop} : ∀ {l : List Oper} {n : Nat}, (∀ i o, l[i]? = some o → p (n + i) o) → AllAt p n l
  | [], _, _ => trivial
  | x :: r, n, h => ⟨h 0 x rfl, AllAt.of fun i o ho => by have := h (i + 1) o (by simpa using ho); rwa [show n + (i + 1) = n + 1 + i by omega] at this⟩

/-! ### The law -/
section
variable {P : Program} {N k : Nat} {Q : Exit → St → Prop} {s : St}
theorem Reps.drew {C : Ctx} {w : World} {η : Nat → Value} {F : Nat → Prop} {sl : Sl} {hp : Hp} {a : Act} (h : Reps C w η F sl hp N a) : Reps C w.drew η F sl hp N a := by
  obtain ⟨h1, h2, h3, h4⟩ := h
  have hT : ∀ g, F g → F g := fun _ h => h
  have hst : ∀ c, Stays η η hp hp c := fun c => by
    cases hc : hp c with
    | none => exact .inl hc
    | some kb =>
      cases kb with
      | sl e sz f rows => exact .inr (.inl ⟨e, sz, f, rows, f, rows, hc, hc, rfl⟩)
      | bx e cells => exact .inr (.inr ⟨e, cells, cells, hc, hc, rfl⟩)
  refine ⟨h1, h2, fun t => ?_, ?_⟩
  · exact (h3 t).keep hT (fun g _ o v hc => hc) h4.oneη fun c _ => hst c
  · exact h4.step (fun _ => False) (fun b _ => ⟨rfl, rfl⟩) (fun _ _ _ _ _ _ _ => rfl) hT (fun _ _ => rfl) (fun c => .inr (hst c)) (fun _ _ h => h.elim) (fun _ _ _ _ _ h => h.elim) (fun _ _ _ _ _ _ h => .inl h) (fun _ _ _ h => h.elim) (fun _ _ _ h => h.elim) (fun g hg => h4.Flt g hg) (fun _ _ _ h => h.elim) (fun _ _ h => h.elim) ⟨h4.keep.os, h4.keep.tape, h4.keep.output, h4.keep.size, h4.keep.block⟩ h4.Fbd

/-- A region that draws its order does what the text's order does. -/
theorem VW.drawn {id : Nat} {l : List Oper} (hm : P.follows .mixedOrders = true) (h : TR P N k l (fun s' τ => drawB l s k τ.reverse = true ∧ Q .normal s') l s []) : VW P N k (.region id l.toArray true) Q s := by
  intro C w a hk hr
  obtain ⟨τ, s', htr, hd, hq⟩ := TR.trc h
  simp only [List.append_nil, List.reverse_reverse] at hd
  obtain ⟨hfS, hfH, hlen⟩ := htr.fin
  have hok := drawB_ok hlen hd
  generalize hits : itsOf l l τ = its at hok hfS hfH hlen
  refine wp_region_inv (fun D a w => Closed l D ∧ ∃ η F, Reps C w η F (runS D 0 its s.sl) (runH D 0 its s.hp) N a) hm hok.ac (fun D D' a w hDD ⟨h1, h2⟩ => ?_) ?_ ?_ fun D a w hall ⟨h1, η, F, h2⟩ => ⟨s', hq, η, F, ?_⟩
  · have : D = D' := funext fun j => propext (hDD j)
    subst this
    exact ⟨h1, h2⟩
  · refine ⟨fun _ _ _ h => h.elim, ?_⟩
    obtain ⟨η, F, hR⟩ := hr
    refine ⟨η, F, ?_⟩
    rw [runS_none (fun _ h => h), runH_none (fun _ h => h)]
    exact hR.drew
  · refine AllAt.of fun i o ho => ?_
    rw [Nat.zero_add]
    intro D a w K ⟨hcl, η, F, hR⟩ hni hwt hK
    -- ⟨hcl, η, F, hR⟩ hni hwt hK => ?_
    obtain ⟨e, si, pre, post, h1, h2, h3, h4, h5⟩ := htr.at_ ho
    rw [hits] at h1
    have hi : its[i]? = some (itOf l o e) := by rw [h1, List.getElem?_append_right (by omega), h2]; simp
    have hpre : ∀ m x, pre[m]? = some x → m < i ∧ its[m]? = some x := fun m x hx => by
      have hm : m < pre.length := by
        rcases Nat.lt_or_ge m pre.length with h | h
        · exact h
        · rw [List.getElem?_eq_none h] at hx; cases hx
      exact ⟨by omega, by rw [h1, List.getElem?_append_left hm]; exact hx⟩
    have hpost : ∀ m x, post[m]? = some x → its[i + 1 + m]? = some x := fun m x hx => by
      rw [h1, List.getElem?_append_right (by omega), show i + 1 + m - pre.length = m + 1 by omega, List.getElem?_cons_succ]
      exact hx
    -- what is not done of the earlier, and what is done of the later, is free
    have hfe : ∀ m x, pre[m]? = some x → ¬ D (0 + m) → free x (itOf l o e) = true := fun m x hx hd => by
      obtain ⟨hm, hx'⟩ := hpre m x hx
      rcases (hok.pair m i x _ hm hx' hi).1 with h | h
      · exact absurd (by rw [Nat.zero_add]; exact h.ready hcl (fun o' ho' => by rw [ho] at ho'; cases ho'; exact hwt)) hd
      · exact h
    have hfl : ∀ m x, post[m]? = some x → D (i + 1 + m) → free (itOf l o e) x = true := fun m x hx hd => by
      rcases (hok.pair i (i + 1 + m) _ x (by omega) hi (hpost m x hx)).1 with h | h
      · exact absurd (h.closed hcl hd) hni
      · exact h
    have hsplit : ∀ (E : Nat → Prop) (sl : Sl), runS E 0 its sl = runS E (i + 1) post (runS E i [itOf l o e] (runS E 0 pre sl)) := fun E sl => by
      rw [h1, runS_append, Nat.zero_add, h2]; rfl
    have hsplitH : ∀ (E : Nat → Prop) (hp : Hp), runH E 0 its hp = runH E (i + 1) post (runH E i [itOf l o e] (runH E 0 pre hp)) := fun E hp => by
      rw [h1, runH_append, Nat.zero_add, h2]; rfl
    have hoff : ∀ (sl : Sl), runS D i [itOf l o e] sl = sl := fun sl => by
      show runS D (i + 1) [] _ = sl
      rw [if_neg hni]; rfl
    have hoffH : ∀ (hp : Hp), runH D i [itOf l o e] hp = hp := fun hp => by
      show runH D (i + 1) [] _ = hp
      rw [if_neg hni]; rfl
    have hread : ∀ t ∈ (itOf l o e).rd, runS D 0 its s.sl t = si.sl t := fun t ht => by
      rw [hsplit, hoff, runS_other (AtD.of fun m x hx hd => hasDst_ok (free_ok (hfl m x hx hd)).2.1 t ht), h4]
      exact runS_all (AtD.of fun m x hx hd => hasDst_ok (free_ok (hfe m x hx hd)).1 t ht) rfl
    have hneed : ∀ b ∈ keysN (itOf l o e).need, runH D 0 its s.hp b = si.hp b := fun b hb => by
      rw [hsplitH, hoffH, runH_other (AtD.of fun m x hx hd hxb => disjN_ok (free_ok (hfl m x hx hd)).2.2.2.2.2.1 b hxb hb), h5]
      exact runH_all (AtD.of fun m x hx hd hxb => disjN_ok (free_ok (hfe m x hx hd)).2.2.2.2.1 b hxb hb) rfl
    have hnew : ∀ b ∈ (itOf l o e).new, runH D 0 its s.hp b = none ∧ UnmentB (runH D 0 its s.hp) b ∧ UnmentS (runS D 0 its s.sl) b ∧ k ≤ b := fun b hb => by
      have hf := St.fresh (List.all_eq_true.1 (hok.fresh i _ hi) b hb)
      rw [hsplit, hsplitH, hoff, hoffH]
      have hA := run_fresh (D := D) (nb := b) (l := pre) (n := 0) (hp := s.hp) (sl := s.sl) (AtD.of fun m x hx _ => by
        obtain ⟨hm, hx'⟩ := hpre m x hx
        exact noneMent_ok (hok.pair m i x _ hm hx' hi).2 b hb) ⟨hf.1, hf.2.1⟩ hf.2.2.1
      have hB := run_fresh (D := D) (nb := b) (l := post) (n := i + 1) (AtD.of fun m x hx hd => noneMent_ok (free_ok (hfl m x hx hd)).2.2.2.2.2.2 b hb) hA.1 hA.2
      exact ⟨hB.1.1, hB.1.2, hB.2, hf.2.2.2⟩
    -- the state afterwards
    have hpreI : ∀ m, m < pre.length → (D (0 + m) ↔ (fun j => D j ∨ j = i) (0 + m)) := fun m hm => ⟨.inl, fun h => h.resolve_right (by omega)⟩
    have hpostI : ∀ m, m < post.length → (D (i + 1 + m) ↔ (fun j => D j ∨ j = i) (i + 1 + m)) := fun m _ => ⟨.inl, fun h => h.resolve_right (by omega)⟩
    have hafS : runS (fun j => D j ∨ j = i) 0 its s.sl = (runS D 0 its s.sl).put (itOf l o e).dst (itOf l o e).r := by
      rw [hsplit, hsplit D, hoff, ← runS_iff (l := post) hpostI, ← runS_iff (l := pre) hpreI]
      rw [runS_on (D := fun j => D j ∨ j = i) (n := i) (.inr rfl)]
      exact runS_comm (AtD.of fun m x hx hd => (free_ok (hfl m x hx hd)).2.2.1)
    have hafH : runH (fun j => D j ∨ j = i) 0 its s.hp = hpUpd (runH D 0 its s.hp) (itOf l o e).upd := by
      rw [hsplitH, hsplitH D, hoffH, ← runH_iff (l := post) hpostI, ← runH_iff (l := pre) hpreI]
      rw [runH_on (D := fun j => D j ∨ j = i) (n := i) (.inr rfl)]
      exact runH_comm (AtD.of fun m x hx hd => (free_ok (hfl m x hx hd)).2.2.2.1)
    have hcl' : Closed l (fun j => D j ∨ j = i) := fun j x o' hj ho' hw => by
      rcases hj with hj | rfl
      · exact .inl (hcl j x o' hj ho' hw)
      · rw [ho] at ho'; cases ho'; exact .inl (hwt x hw)
    have hyieldN : ∀ j want d, o.guard = some (j, want) → (l[j]?).bind (·.dst) = some d → lookS si.slots d = uS → yielded l.toArray a.tmps j = none := fun j want d hg hd hb => by
      have hmem : d ∈ (itOf l o e).rd := by
        have : d ∈ guardRd l o := by unfold guardRd; rw [hg]; simp only [hd]; simp
        cases e with
        | none => exact this
        | some ρ => exact List.mem_append_left _ this
      have h6 := hR.slots d
      rw [hread d hmem, show si.sl d = uS from hb] at h6
      obtain ⟨us, h7, _⟩ := h6
      unfold yielded
      rw [List.getElem?_toArray, hd, Option.bind_some]
      rw [Array.getD_eq_getD_getElem?] at h7
      cases h8 : a.tmps[d]? with
      | none => rfl
      | some v =>
        rw [h8, Option.getD_some] at h7
        rw [h7]
    have hyield : ∀ j want d b, o.guard = some (j, want) → (l[j]?).bind (·.dst) = some d → lookS si.slots d = bS b → yielded l.toArray a.tmps j = some b := fun j want d b hg hd hb => by
      have hmem : d ∈ (itOf l o e).rd := by
        have : d ∈ guardRd l o := by unfold guardRd; rw [hg]; simp only [hd]; simp
        cases e with
        | none => exact this
        | some ρ => exact List.mem_append_left _ this
      have h6 := hR.slots d
      rw [hread d hmem, show si.sl d = bS b from hb] at h6
      have h7 : a.tmps.getD d undef = .bool b := Tr.bool_inv h6
      unfold yielded
      rw [List.getElem?_toArray, hd, Option.bind_some]
      have hlt : d < a.tmps.size := by
        rcases Nat.lt_or_ge d a.tmps.size with h | h
        · exact h
        · rw [Array.getD_eq_getD_getElem?, Array.getElem?_eq_none h] at h7; cases h7
      rw [Array.getD_eq_getD_getElem?, Array.getElem?_eq_getElem hlt, Option.getD_some] at h7
      rw [Array.getElem?_eq_getElem hlt, h7]
    cases e with
    | none =>
      obtain ⟨hdst, j, want, d, hg, hjd, hcase⟩ := h3
      have hw : Region.wanted o (yielded l.toArray a.tmps) = false := by
        rcases hcase with ⟨b, hb, hne⟩ | hb
        · simp [Region.wanted, hg, hyield j want d b hg hjd hb, hne]
        · simp [Region.wanted, hg, hyieldN j want d hg hjd hb]
      rw [hw, if_neg (by simp)]
      refine hK _ _ ⟨hcl', η, F, ?_⟩
      rw [hafS, hafH]
      exact hR.put (uS_rep _ _ _ _) (dst_lt hdst)
    | some ρ =>
      obtain ⟨hst, hg⟩ := h3
      have hw : Region.wanted o (yielded l.toArray a.tmps) = true := by
        rcases hg with hg | ⟨j, want, d, hg, hjd, hb⟩
        · simp [Region.wanted, hg]
        · simp [Region.wanted, hg, hyield j want d want hg hjd hb]
      rw [if_pos hw]
      refine hst.step C w η F _ _ N a K _ hR (fun x hx => ?_) (fun p hp => ?_) (fun b hb => ?_) (dst_lt hst.dst) fun v w' η' F' hR' => hK _ _ ⟨hcl', η', F', ?_⟩
      · rw [← si.ev_eq x]
        cases x with
        | tmp t => exact hread t (List.mem_append_right _ (rdOp_mem hx))
        | const c => unfold evalS; split <;> first | (rename_i h; cases h; done) | rfl
        | _ => rfl
      · rw [hneed p.1 (keysN_mem hp)]
        exact St.need hst.need p hp
      · obtain ⟨h6, h7, h8, h9⟩ := hnew b hb
        exact ⟨h6, h7, h8, by rw [hk]; exact h9⟩
      · rw [hafS, hafH]
        exact hR'
  · rw [runS_full fun m hm => by rw [Nat.zero_add]; exact hall m (by omega), runH_full fun m hm => by rw [Nat.zero_add]; exact hall m (by omega), ← hfS, ← hfH] at h2
    exact h2
end
#print axioms VW.drawn
end Go.Proofs.YtjfkdjlmajfljaaDoor
