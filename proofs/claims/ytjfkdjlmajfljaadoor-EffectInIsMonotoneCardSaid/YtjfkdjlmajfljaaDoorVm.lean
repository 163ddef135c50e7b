/- The machine: states written out, regions, code, functions. -/
import Derived.Test.YtjfkdjlmajfljaaDoorCallC
namespace Go.Proofs.YtjfkdjlmajfljaaDoor
open Go.RowKit

def lookS : List (Nat × SV) → Nat → SV
  | [], _ => SV.any
  | (k, v) :: r, t => match Nat.beq k t with
    | true => v
    | false => lookS r t
def lookH : List (Option Blk) → Nat → Option Blk
  | [], _ => none
  | x :: _, 0 => x
  | _ :: r, n + 1 => lookH r n
def setH : List (Option Blk) → Nat → Option Blk → List (Option Blk)
  | [], 0, x => [x]
  | [], n + 1, x => none :: setH [] n x
  | _ :: r, 0, x => x :: r
  | y :: r, n + 1, x => y :: setH r n x
def updH : List (Option Blk) → List (Nat × Option Blk) → List (Option Blk)
  | h, [] => h
  | h, (b, x) :: r => updH (setH h b x) r
theorem lookH_setH : ∀ (h : List (Option Blk)) (b c : Nat) (x : Option Blk), lookH (setH h b x) c = if c = b then x else lookH h c
  | [], 0, 0, x => rfl
  | [], 0, c + 1, x => by simp [setH, lookH]
  | [], b + 1, 0, x => by simp [setH, lookH]
  | [], b + 1, c + 1, x => by simp only [setH, lookH]; rw [lookH_setH [] b c x]; simp [lookH]
  | y :: r, 0, 0, x => rfl
  | y :: r, 0, c + 1, x => by simp [setH, lookH]
  | y :: r, b + 1, 0, x => by simp [setH, lookH]
  | y :: r, b + 1, c + 1, x => by simp only [setH, lookH]; rw [lookH_setH r b c x]; simp
theorem lookH_updH : ∀ (upd : List (Nat × Option Blk)) (h : List (Option Blk)), lookH (updH h upd) = hpUpd (lookH h) upd
  | [], h => rfl
  | (b, x) :: r, h => by
    show lookH (updH (setH h b x) r) = hpUpd (hpSet (lookH h) b x) r
    rw [lookH_updH r]
    congr 1
    funext c
    exact lookH_setH h b c x

/-- What is not computed. -/
def uS : SV := .tup []
def dstB (N : Nat) : Option Tmp → Bool
  | some d => Nat.blt d N
  | none => true

structure St where
  slots : List (Nat × SV)
  heap : List (Option Blk)

namespace St
def sl (s : St) : Sl := lookS s.slots
def hp (s : St) : Hp := lookH s.heap
def ev (s : St) : Operand → SV
  | .tmp t => lookS s.slots t
  | .const (.int k n) => .w (.c (.v (.int k n)))
  | .const (.bool b) => .w (.c (.v (.bool b)))
  | .const (.slice none 0 0) => .w (.c (.v .nil))
  | _ => SV.any
def put (s : St) (d : Option Tmp) (r : SV) : St := match d with
  | some d => ⟨(d, r) :: s.slots, s.heap⟩
  | none => s
def eff (s : St) (d : Option Tmp) (ρ : Eff) : St := (⟨s.slots, updH s.heap ρ.upd⟩ : St).put d ρ.r
def freshB (s : St) (k b : Nat) : Bool := (lookH s.heap b).isNone && s.slots.all (fun p => !p.2.ment b) && s.heap.all (fun x => match x with | some (.bx _ cells) => !cells.any (AV.ment b) | _ => true) && decide (k ≤ b)
def needOk (s : St) : List (Nat × Blk) → Prop
  | [] => True
  | (b, k) :: r => lookH s.heap b = some k ∧ s.needOk r
def Rep (C : Ctx) (N : Nat) (s : St) (w : World) (a : Act) : Prop := ∃ η F, Reps C w η F s.sl s.hp N a
end St

theorem St.ev_eq (s : St) (x : Operand) : evalS s.sl x = s.ev x := by
  cases x with
  | tmp t => rfl
  | const v =>
    cases v with
    | slice a n c =>
      unfold evalS St.ev
      split <;> first | (rename_i h; cases h) | skip
      all_goals (split <;> simp_all)
    | _ => rfl
  | global g => rfl
  | func f => rfl

theorem St.put_sl (s : St) (d : Option Tmp) (r : SV) : (s.put d r).sl = s.sl.put d r := by
  cases d with
  | none => rfl
  | some d =>
    funext t
    show lookS ((d, r) :: s.slots) t = if some d = some t then r else lookS s.slots t
    rw [lookS]
    cases h : Nat.beq d t with
    | true => rw [Nat.eq_of_beq_eq_true h]; simp
    | false =>
      have : d ≠ t := fun e => by subst e; rw [Nat.beq_refl] at h; cases h
      rw [if_neg (by simpa using this)]
theorem St.eff_sl (s : St) (d : Option Tmp) (ρ : Eff) : (s.eff d ρ).sl = s.sl.put d ρ.r := by unfold St.eff; rw [St.put_sl]; rfl
theorem St.eff_hp (s : St) (d : Option Tmp) (ρ : Eff) : (s.eff d ρ).hp = hpUpd s.hp ρ.upd := by
  have : (s.eff d ρ).heap = updH s.heap ρ.upd := by unfold St.eff St.put; cases d <;> rfl
  unfold St.hp
  rw [this, lookH_updH]

theorem lookS_all {p : SV → Bool} : ∀ {l : List (Nat × SV)} (_ : l.all (fun q => p q.2) = true) (_ : p SV.any = true) (t : Nat), p (lookS l t) = true
  | [], _, ha, _ => ha
  | (k, v) :: r, h, ha, t => by
    simp only [List.all_cons, Bool.and_eq_true] at h
    unfold lookS
    cases Nat.beq k t with
    | true => exact h.1
    | false => exact lookS_all h.2 ha t
theorem lookH_mem : ∀ {l : List (Option Blk)} {b : Nat} {k : Blk}, lookH l b = some k → some k ∈ l
  | [], _, _, h => by cases h
  | x :: r, 0, k, h => by rw [show x = some k from h]; simp
  | x :: r, b + 1, k, h => List.mem_cons_of_mem _ (lookH_mem (l := r) (b := b) h)
theorem St.fresh {s : St} {k b : Nat} (h : s.freshB k b = true) : s.hp b = none ∧ UnmentB s.hp b ∧ UnmentS s.sl b ∧ k ≤ b := by
  unfold St.freshB at h
  simp only [Bool.and_eq_true, decide_eq_true_eq] at h
  obtain ⟨⟨⟨h1, h2⟩, h3⟩, h4⟩ := h
  refine ⟨by simpa [St.hp] using h1, fun c e cells hc => ?_, fun t => ?_, h4⟩
  · have := List.all_eq_true.1 h3 _ (lookH_mem hc)
    simpa using this
  · have := lookS_all (p := fun v => !v.ment b) h2 (by rfl) t
    simpa [St.sl] using this
theorem St.need {s : St} : ∀ {l : List (Nat × Blk)}, s.needOk l → ∀ p ∈ l, s.hp p.1 = some p.2
  | [], _, _, h => by cases h
  | (b, k) :: r, h, p, hp => by
    rcases List.mem_cons.1 hp with rfl | hp
    · exact h.1
    · exact St.need h.2 p hp

section
variable (P : Program) (N k : Nat)

structure StepOk (o : Oper) (s : St) (ρ : Eff) : Prop where
  step : OStep P o s.ev ρ
  need : s.needOk ρ.need
  new : ρ.new.all (s.freshB k) = true
  dst : dstB N o.dst = true

/-- A region, operation by operation in the order of the text. -/
def TR (all : List Oper) (K : St → List (Option Eff) → Prop) : List Oper → St → List (Option Eff) → Prop
  | [], s, τ => K s τ
  | o :: r, s, τ => match o.guard with
    | none => ∃ ρ, StepOk P N k o s ρ ∧ TR all K r (s.eff o.dst ρ) (some ρ :: τ)
    | some (j, want) => ∃ d, (all[j]?).bind (·.dst) = some d ∧ ((∃ b, lookS s.slots d = bS b ∧ (b = want → ∃ ρ, StepOk P N k o s ρ ∧ TR all K r (s.eff o.dst ρ) (some ρ :: τ)) ∧
        (b ≠ want → dstB N o.dst = true ∧ TR all K r (s.put o.dst uS) (none :: τ))) ∨ (lookS s.slots d = uS ∧ dstB N o.dst = true ∧ TR all K r (s.put o.dst uS) (none :: τ)))

/-- The code does what Q says, from every world that holds the state s. -/
def VW (c : Code) (Q : Exit → St → Prop) (s : St) : Prop :=
  ∀ (C : Ctx) (w : World) (a : Act), C.bs.length = k → s.Rep C N w a → c.wp P (fun e a' w' => ∃ s', Q e s' ∧ s'.Rep C N w' a') a w
end

section
variable {P : Program} {N k : Nat} {Q : Exit → St → Prop} {s : St}

theorem dst_lt {o : Oper} {N : Nat} (h : dstB N o.dst = true) : ∀ t, o.dst = some t → t < N := fun t ht => by
  rw [ht] at h
  simpa [dstB, Nat.blt_eq] using h

theorem step_wp {C : Ctx} {w : World} {a : Act} {o : Oper} {ρ : Eff} {K : Act → World → Prop} {Q' : Exit → Act → World → Prop} (hk : C.bs.length = k) (hs : StepOk P N k o s ρ) (hr : s.Rep C N w a) (h : ∀ a' w', (s.eff o.dst ρ).Rep C N w' a' → K a' w') : o.wp P a w K Q' := by
  obtain ⟨η, F, hR⟩ := hr
  refine hs.step C w η F s.sl s.hp N a K Q' hR (fun x _ => s.ev_eq x) (St.need hs.need) (fun b hb => ?_) (dst_lt hs.dst) fun v w' η' F' hR' => h _ _ ⟨η', F', ?_⟩
  · have := St.fresh (List.all_eq_true.1 hs.new b hb)
    exact ⟨this.1, this.2.1, this.2.2.1, by rw [hk]; exact this.2.2.2⟩
  · rw [St.eff_sl, St.eff_hp]
    exact hR'

theorem yielded_eq {C : Ctx} {w : World} {a : Act} {all : List Oper} {j d : Nat} {b : Bool} (hr : s.Rep C N w a) (hd : (all[j]?).bind (·.dst) = some d) (hb : lookS s.slots d = bS b) : yielded all.toArray a.tmps j = some b := by
  obtain ⟨η, F, hR⟩ := hr
  have h1 := hR.slots d
  rw [show s.sl d = bS b from hb] at h1
  have h2 : a.tmps.getD d undef = .bool b := Tr.bool_inv h1
  unfold yielded
  rw [List.getElem?_toArray, hd, Option.bind_some]
  have hlt : d < a.tmps.size := by
    rcases Nat.lt_or_ge d a.tmps.size with h | h
    · exact h
    · rw [Array.getD_eq_getD_getElem?, Array.getElem?_eq_none h] at h2
      cases h2
  rw [Array.getD_eq_getD_getElem?, Array.getElem?_eq_getElem hlt, Option.getD_some] at h2
  rw [Array.getElem?_eq_getElem hlt, h2]

theorem yielded_none {C : Ctx} {w : World} {a : Act} {all : List Oper} {j d : Nat} (hr : s.Rep C N w a) (hd : (all[j]?).bind (·.dst) = some d) (hb : lookS s.slots d = uS) : yielded all.toArray a.tmps j = none := by
  obtain ⟨η, F, hR⟩ := hr
  have h1 := hR.slots d
  rw [show s.sl d = uS from hb] at h1
  obtain ⟨us, h2, _⟩ := h1
  unfold yielded
  rw [List.getElem?_toArray, hd, Option.bind_some]
  rw [Array.getD_eq_getD_getElem?] at h2
  cases h3 : a.tmps[d]? with
  | none => rfl
  | some v =>
    rw [h3, Option.getD_some] at h2
    rw [h2]
theorem uS_rep (w : World) (F : Nat → Prop) (η : Nat → Value) (hp : Hp) : SRep w F η hp uS undef := ⟨[], rfl, rfl, by simp⟩
theorem putU_rep {C : Ctx} {w : World} {a : Act} {d : Option Tmp} (hr : s.Rep C N w a) (hd : ∀ t, d = some t → t < N) : (s.put d uS).Rep C N w (a.put d undef) := by
  obtain ⟨η, F, hR⟩ := hr
  refine ⟨η, F, ?_⟩
  rw [St.put_sl]
  have : (s.put d uS).hp = s.hp := by unfold St.put; cases d <;> rfl
  rw [this]
  exact hR.put (uS_rep _ _ _ _) hd

theorem TR.wpList {C : Ctx} (hk : C.bs.length = k) {all : List Oper} {K : St → List (Option Eff) → Prop} {Q' : Exit → Act → World → Prop} (hQ : ∀ s τ a w, K s τ → s.Rep C N w a → Q' .normal a w) :
    ∀ (l : List Oper) (s : St) (τ : List (Option Eff)) (a : Act) (w : World), TR P N k all K l s τ → s.Rep C N w a → wpList P all.toArray Q' l a w
  | [], s, τ, a, w, h, hr => hQ s τ a w h hr
  | o :: r, s, τ, a, w, h, hr => by
    unfold TR at h
    refine wpList_step fun K' hK' => ?_
    cases hg : o.guard with
    | none =>
      rw [hg] at h
      obtain ⟨ρ, h1, h2⟩ := h
      rw [if_pos (by simp [Region.wanted, hg])]
      exact step_wp hk h1 hr fun a' w' hr' => hK' _ _ (TR.wpList hk hQ r _ _ a' w' h2 hr')
    | some jw =>
      obtain ⟨j, want⟩ := jw
      rw [hg] at h
      obtain ⟨d, h1, ⟨b, h2, h3, h4⟩ | ⟨h2, h5, h6⟩⟩ := h
      · have hy := yielded_eq hr h1 h2
        have hwd : Region.wanted o (yielded all.toArray a.tmps) = (b == want) := by simp [Region.wanted, hg, hy]
        rw [hwd]
        by_cases hbw : b = want
        · rw [if_pos (by simp [hbw])]
          obtain ⟨ρ, h5, h6⟩ := h3 hbw
          exact step_wp hk h5 hr fun a' w' hr' => hK' _ _ (TR.wpList hk hQ r _ _ a' w' h6 hr')
        · rw [if_neg (by simp [hbw])]
          obtain ⟨h5, h6⟩ := h4 hbw
          exact hK' _ _ (TR.wpList hk hQ r _ _ _ w h6 (putU_rep hr (dst_lt h5)))
      · rw [if_neg (by simp [Region.wanted, hg, yielded_none hr h1 h2])]
        exact hK' _ _ (TR.wpList hk hQ r _ _ _ w h6 (putU_rep hr (dst_lt h5)))

theorem VW.region {id : Nat} {l : List Oper} (h : TR P N k l (fun s' _ => Q .normal s') l s []) : VW P N k (.region id l.toArray false) Q s :=
  fun _ w a hk hr => wp_region_lit (TR.wpList hk (fun s' _ _ _ hq hr' => ⟨s', hq, hr'⟩) l s [] a w h hr)

theorem VW.mono {c : Code} {Q' : Exit → St → Prop} (h : VW P N k c Q s) (hq : ∀ e s, Q e s → Q' e s) : VW P N k c Q' s :=
  fun C w a hk hr => wp_mono (h C w a hk hr) fun _ _ _ ⟨s', h1, h2⟩ => ⟨s', hq _ _ h1, h2⟩

/-- What follows in a sequence. -/
def thenQ (next : St → Prop) (Q : Exit → St → Prop) : Exit → St → Prop
  | .normal, s => next s
  | e, s => Q e s
def blockQ (id : Nat) (Q : Exit → St → Prop) : Exit → St → Prop
  | .exit id', s => if id' = id then Q .normal s else Q (.exit id') s
  | e, s => Q e s

theorem VW.seq {x y : Code} (h : VW P N k x (thenQ (VW P N k y Q) Q) s) : VW P N k (.seq x y) Q s := fun C w a hk hr =>
  wp_seq (wp_mono (h C w a hk hr) fun e a' w' ⟨s', h1, h2⟩ => by
    cases e with
    | normal => exact h1 C w' a' hk h2
    | _ => exact ⟨s', h1, h2⟩)
theorem VW.skip (h : Q .normal s) : VW P N k .skip Q s := fun _ _ _ _ hr => wp_skip ⟨s, h, hr⟩
theorem VW.label {l : Nat} (h : Q .normal s) : VW P N k (.label l) Q s := fun _ _ _ _ hr => wp_label ⟨s, h, hr⟩
theorem VW.ret (h : Q .ret s) : VW P N k .ret Q s := fun _ _ _ _ hr => wp_ret ⟨s, h, hr⟩
theorem VW.exit {id : Nat} (h : Q (.exit id) s) : VW P N k (.exit id) Q s := fun _ _ _ _ hr => wp_exit ⟨s, h, hr⟩
theorem VW.block {id : Nat} {c : Code} (h : VW P N k c (blockQ id Q) s) : VW P N k (.block id c) Q s := fun C w a hk hr =>
  wp_block (wp_mono (h C w a hk hr) fun e a' w' ⟨s', h1, h2⟩ => by
    cases e with
    | exit id' =>
      by_cases hid : id' = id
      · simp only [Exit.inBlock, blockQ, if_pos hid] at h1 ⊢; exact ⟨s', h1, h2⟩
      · simp only [Exit.inBlock, blockQ, if_neg hid] at h1 ⊢; exact ⟨s', h1, h2⟩
    | _ => exact ⟨s', h1, h2⟩)
theorem VW.cond {c : Operand} {x y : Code} {b : Bool} (hc : s.ev c = bS b) (ht : b = true → VW P N k x Q s) (hf : b = false → VW P N k y Q s) : VW P N k (.cond c x y) Q s := fun C w a hk hr => by
  obtain ⟨η, F, hR⟩ := hr
  exact wp_cond_split (hR.boolv ((s.ev_eq c).trans hc)) (fun h => ht h C w a hk ⟨η, F, hR⟩) (fun h => hf h C w a hk ⟨η, F, hR⟩)

/-- A state that says less. -/
def St.le (N k : Nat) (s s' : St) : Prop := ∀ (C : Ctx) (w : World) (a : Act), C.bs.length = k → s.Rep C N w a → s'.Rep C N w a
theorem St.le.refl (s : St) : St.le N k s s := fun _ _ _ _ h => h
theorem St.le.trans {a b c : St} (h : St.le N k a b) (h' : St.le N k b c) : St.le N k a c := fun C w x hk hr => h' C w x hk (h C w x hk hr)
theorem VW.weaken {c : Code} {s' : St} (h : St.le N k s s') (hv : VW P N k c Q s') : VW P N k c Q s := fun C w a hk hr => hv C w a hk (h C w a hk hr)

theorem least {p : Nat → Prop} (h : ∃ n, p n) : ∃ n, p n ∧ ∀ m, p m → n ≤ m := by
  classical
  obtain ⟨n, hn⟩ := h
  induction n using Nat.strongRecOn with
  | _ n ih =>
    by_cases hm : ∃ m, m < n ∧ p m
    · obtain ⟨m, h1, h2⟩ := hm
      exact ih m h1 h2
    · exact ⟨n, hn, fun m h1 => Nat.le_of_not_lt fun h2 => hm ⟨m, h2, h1⟩⟩

theorem VW.loop {c : Code} (I : St → Prop) (μ : St → Nat) (s0 : St) (h0 : St.le N k s s0) (hI : I s0) (round : ∀ s, I s → VW P N k c (thenQ (fun s' => ∃ s'', St.le N k s' s'' ∧ I s'' ∧ μ s'' < μ s) Q) s) : VW P N k (.loop c) Q s := by
  classical
  intro C w a hk hr
  let T : Act → World → Nat → Prop := fun a w n => ∃ s, I s ∧ s.Rep C N w a ∧ μ s = n
  refine wp_loop (fun a w => ∃ n, T a w n) (fun a w => if h : ∃ n, T a w n then Classical.choose (least h) else 0) ⟨μ s0, s0, hI, h0 C w a hk hr, rfl⟩ fun a w hT => ?_
  obtain ⟨s1, h1, h2, h3⟩ := (Classical.choose_spec (least hT)).1
  refine wp_mono (round s1 h1 C w a hk h2) fun e a' w' ⟨s', h4, h5⟩ => ?_
  cases e with
  | normal =>
    obtain ⟨s'', h6, h7, h8⟩ := h4
    have hT' : ∃ n, T a' w' n := ⟨μ s'', s'', h7, h6 C w' a' hk h5, rfl⟩
    refine ⟨hT', ?_⟩
    rw [dif_pos hT', dif_pos hT]
    refine Nat.lt_of_le_of_lt ((Classical.choose_spec (least hT')).2 _ ⟨s'', h7, h6 C w' a' hk h5, rfl⟩) ?_
    rw [← h3]
    exact h8
  | _ => exact ⟨s', h4, h5⟩
end
#print axioms VW.loop
end Go.Proofs.YtjfkdjlmajfljaaDoor
