/- Function values that capture variables. -/
import Derived.Test.YtpjmpkgllnomaaaDoorMc
set_option linter.unusedVariables false
namespace Go.Proofs.YtpjmpkgllnomaaaDoor
open Go.RowKit Q
def capO : SV → Option Cap
  | .w (.c (.ptr b 0 0)) => some (.p b)
  | .w (.c (.v t)) => some (.v t)
  | _ => none
def capsO (ev : Operand → SV) : List Operand → Option (List Cap)
  | [] => some []
  | x :: r => match capO (ev x) with
    | none => none
    | some c => (capsO ev r).map (c :: ·)
def capsNeed : List Cap → List (Nat × Blk) → Bool
  | [], [] => true
  | .v _ :: r, n => capsNeed r n
  | .p b :: r, (b', .bx _ _) :: n => Nat.beq b b' && capsNeed r n
  | _, _ => false
section
variable {P : Program} {C : Ctx} {w w' : World} {η : Nat → Value} {F : Nat → Prop} {sl : Sl} {hp : Hp} {N : Nat} {a : Act} {o : Oper} {ev : Operand → SV}
theorem capsO_rep (hR : Reps C w η F sl hp N a) : ∀ {cs : List Operand} {caps : List Cap} {need : List (Nat × Blk)}, (∀ x ∈ cs, evalS sl x = ev x) → (∀ p ∈ need, hp p.1 = some p.2) → capsO ev cs = some caps → capsNeed caps need = true →
    (cs.map a.eval).length = caps.length ∧ ∀ (i : Nat) (c : Cap) (x : Value), caps[i]? = some c → (cs.map a.eval)[i]? = some x → CapRep w F η hp c x
  | [], caps, need, _, _, h, _ => by
    simp only [capsO, Option.some.injEq] at h
    subst h
    exact ⟨rfl, fun i c x hc => by simp at hc⟩
  | z :: r, caps, need, hev, hn, h, hk => by
    unfold capsO at h
    split at h
    · cases h
    · rename_i c hc
      rw [Option.map_eq_some_iff] at h
      obtain ⟨caps', h1, rfl⟩ := h
      have hz := hR.eval z
      rw [hev z (by simp)] at hz
      have key : ∀ need', (∀ p ∈ need', hp p.1 = some p.2) → capsNeed caps' need' = true → CapRep w F η hp c (a.eval z) → ((z :: r).map a.eval).length = (c :: caps').length ∧ ∀ (i : Nat) (c' : Cap) (x : Value), (c :: caps')[i]? = some c' → ((z :: r).map a.eval)[i]? = some x → CapRep w F η hp c' x := fun need' hn' hk' hr => by
        obtain ⟨h2, h3⟩ := capsO_rep hR (fun x hx => hev x (by simp [hx])) hn' h1 hk'
        refine ⟨by simpa using h2, fun i c' x hc' hx => ?_⟩
        cases i with
        | zero =>
          simp at hc' hx
          subst hc'; subst hx
          exact hr
        | succ i => exact h3 i c' x (by simpa using hc') (by simpa using hx)
      unfold capO at hc
      split at hc
      · rename_i b he
        injection hc with hc
        subst hc
        cases need with
        | nil => cases hk
        | cons p n =>
          obtain ⟨b', kb⟩ := p
          cases kb with
          | sl e sz f rows => cases hk
          | gh Φ => cases hk
          | bx e cells =>
            simp only [capsNeed, Bool.and_eq_true] at hk
            have hb := Nat.eq_of_beq_eq_true hk.1
            subst hb
            have h4 := hn (b, .bx e cells) (by simp)
            refine key n (fun p hp' => hn p (by simp [hp'])) hk.2 ?_
            rw [he] at hz
            dsimp only at h4
            simp only [SRep, WRep, CRep, h4] at hz
            simp only [CapRep, h4]
            exact hz
      · rename_i t he
        injection hc with hc
        subst hc
        refine key need hn hk ?_
        rw [he] at hz
        exact hz
      · cases hc
theorem OStep.mkFunc {f : FuncId} {cs : List Operand} {caps : List Cap} {need : List (Nat × Blk)} (ho : o.op = .makeFunc (.func f) #[] cs.toArray) (hc : capsO ev cs = some caps) (hk : capsNeed caps need = true) : OStep P o ev ⟨need, [], [], .w (.c (.clo f caps))⟩ :=
  .heap fun C w η F sl hp N a hR hev hnd hnew => by
    obtain ⟨h1, h2⟩ := capsO_rep hR (fun x hx => hev x (by simp [ho, Op.operands, hx])) hnd hc hk
    refine ⟨.func (.func f) #[] (cs.map a.eval).toArray, w, η, F, .inl ?_, hR.heap, fun _ h => h, fun _ _ => rfl, fun c => .inr (Stays.of_same rfl rfl), ⟨_, rfl, h1, h2⟩⟩
    unfold execOp; rw [ho]
    simp [Instr.makeFunc]
end
#print axioms OStep.mkFunc
section
variable {N k : Nat} {β : Type} {q : β → Po} {all r : List Oper} {s : St} {τ : List (Option Eff)} {d : Option Tmp} {ty : TypeId} {pos : String} {aft : Array Edge} {m : M β}
theorem X.mkF (caps : List Cap) (need : List (Nat × Blk)) {f : FuncId} {cs : List Operand} (h : TS N k all q r (s.put d (.w (.c (.clo f caps)))) (some ⟨need, [], [], .w (.c (.clo f caps))⟩ :: τ) m)
    (hc : capsO s.ev cs = some caps := by exact rfl) (hn : s.needOk need := by exact ⟨rfl, trivial⟩) (hk : capsNeed caps need = true := by exact rfl) (hd : dstB N d = true := by exact rfl) :
    TS N k all q (⟨d, .makeFunc (.func f) #[] cs.toArray, ty, pos, aft, none⟩ :: r) s τ m :=
  X.op (OStep.mkFunc (o := ⟨d, .makeFunc (.func f) #[] cs.toArray, ty, pos, aft, none⟩) rfl hc hk) hn rfl hd h
end
end Go.Proofs.YtpjmpkgllnomaaaDoor
