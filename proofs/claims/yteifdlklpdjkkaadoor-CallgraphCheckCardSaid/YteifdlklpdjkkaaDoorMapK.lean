/- Maps whose keys are pairs of integers. -/
import Derived.Test.YteifdlklpdjkkaaDoorMapC
import Derived.ChangeKeysEq
set_option linter.unusedVariables false
set_option linter.unusedSectionVars false
set_option linter.unusedSimpArgs false
set_option maxRecDepth 20000
namespace Go.Proofs.YteifdlklpdjkkaaDoor
open Go.RowKit Go.MapKept Go.ChangeMaps Q
def ekP {κ : Type} (p q : κ → Int) (x : κ) : Value := .agg #[.int .i64 (p x), .int .i64 (q x)]
theorem csP (w : World) (F : Nat → Prop) (η : Nat → Value) (hp : Hp) (a b : Int) : CsRep w F η hp ([TV.int .i64 a, TV.int .i64 b].map AV.v) [.int .i64 a, .int .i64 b] := by
  refine ⟨rfl, fun y hy => ?_, fun i x y hx hy => ?_⟩
  · simp at hy
    rcases hy with rfl | rfl <;> rfl
  · match i with
    | 0 => cases hx; cases hy; exact Tr.int _ _
    | 1 => cases hx; cases hy; exact Tr.int _ _
    | i + 2 => simp at hx
theorem equalP {P : Program} {kt : TypeId} (h : ∀ a b : Int, eqB P kt [.int .i64 a, .int .i64 b] = true) (a b c d : Int) (w : World) : (Op.equal kt (.agg #[.int .i64 a, .int .i64 b]) (.agg #[.int .i64 c, .int .i64 d])).run P w = .ok (decide (a = c ∧ b = d)) w := by
  have := run_eqAgg (P := P) (t := kt) (w := w) (F := fun _ => False) (η := fun _ => undef) (hp := fun _ => none) (h a b) (rb := [.int .i64 c, .int .i64 d]) (by exact rfl) (csP _ _ _ _ a b) (csP _ _ _ _ c d)
  rw [show (sameR [TV.int .i64 a, TV.int .i64 b] [TV.int .i64 c, TV.int .i64 d]) = decide (a = c ∧ b = d) by simp [sameR, sameT, Bool.decide_and]; try rfl] at this
  exact this
section
variable {κ α : Type} [DecidableEq κ] {p q : κ → Int}
theorem findAsk_P {P : Program} {kt : TypeId} (hinj : ∀ a b : κ, p a = p b → q a = q b → a = b) (h : ∀ a b : Int, eqB P kt [.int .i64 a, .int .i64 b] = true) (f : α → Value) (n : κ) (w : World) : ∀ (l : List (κ × α)) (i j : Nat), (Instr.findAsking kt (ekP p q n) (esFrom (l.map fun x => (ekP p q x.1, f x.2)) j) i).run P w = .ok (if idxM l n < l.length then (l[idxM l n]?).map fun x => (i + idxM l n, f x.2) else none) w
  | [], i, j => by simp [esFrom, Instr.findAsking, idxM]
  | x :: r, i, j => by
    simp only [List.map_cons, esFrom, Instr.findAsking, Sem.run_bind]
    have := equalP h (p n) (q n) (p x.1) (q x.1) w
    unfold ekP at *
    rw [this]
    unfold idxM
    simp only [Result.andThen_ok]
    by_cases hx : x.1 = n
    · rw [if_pos hx]
      have : (decide (p n = p x.1 ∧ q n = q x.1)) = true := by rw [hx]; simp
      rw [this]
      simp
    · rw [if_neg hx]
      have : (decide (p n = p x.1 ∧ q n = q x.1)) = false := by
        simp only [decide_eq_false_iff_not]
        rintro ⟨h1, h2⟩
        exact hx (hinj _ _ h1 h2).symm
      rw [this]
      have ih := findAsk_P hinj h f n w r (i + 1) (j + 1)
      unfold ekP at ih
      simp only [Bool.false_eq_true, if_false]
      rw [ih]
      simp [Nat.add_assoc, Nat.add_comm 1]
theorem keyP {P : Program} {kt e : TypeId} (hinj : ∀ a b : κ, p a = p b → q a = q b → a = b) (h : ∀ a b : Int, eqB P kt [.int .i64 a, .int .i64 b] = true) (hu : P.underlying kt = some (.array 2 e)) (he : P.underlying e = some (.int .i64)) (hp : P.plainKey e = true) (hc : P.cellsOf e = 1) : KeyK P kt (ekP p q) where
  chk em n w := by
    have hi : ∃ i, P.info? e = some i := by
      unfold Program.cellsOf at hc
      cases hi : P.info? e with
      | none => rw [hi] at hc; simp at hc
      | some i => exact ⟨i, rfl⟩
    obtain ⟨i, hi⟩ := hi
    rw [show (10000 : Nat) = 9999 + 1 from rfl]
    unfold Instr.checkKey ekP
    simp only [Sem.run_bind, run_underlying hu, Result.andThen_ok]
    simp only [Std.Legacy.Range.forIn_eq_forIn_range', Std.Legacy.Range.size, Nat.sub_zero, Nat.add_one_sub_one, Nat.div_one]
    have hk : ∀ a : Int, (Instr.checkKey em 9999 e (.int .i64 a)).run P w = .ok () w := fun a => MapKept.run_checkKey he (by simp [MapKept.IsKey]) em 9998
    have p0 : ∀ (off : Nat) (v : Value), #[Value.int .i64 (p n), .int .i64 (q n)][off]? = some v → (part e #[Value.int .i64 (p n), .int .i64 (q n)] off).run P w = .ok v w := fun off v hv => run_part_plain w hp hv
    simp [List.range', run_sizeOf w hi, Result.andThen, p0, hk, hc]
  same n := by simp [ekP, Instr.sameBits]
  find f l n w := by
    have hw : (match P.underlying kt with | some (.array _ _) | some (.struct _) => true | _ => false) = true := by rw [hu]
    rw [run_findKey_eq w hw]
    have := findAsk_P hinj h f n w l 0 0
    simpa [mkEs] using this
end
theorem detP (a b : Int) : DetS (.w (.agg [.v (.int .i64 a), .v (.int .i64 b)])) (.agg #[.int .i64 a, .int .i64 b]) := fun w F η hp u h => by
  obtain ⟨us, rfl, h1, _, h3⟩ := h
  match us, h1, h3 with
  | [x, y], _, h3 =>
    have e1 : x = .int .i64 a := Tr.int_inv (h3 0 _ _ rfl rfl)
    have e2 : y = .int .i64 b := Tr.int_inv (h3 1 _ _ rfl rfl)
    rw [e1, e2]
theorem wrepP {κ : Type} {p q : κ → Int} (w : World) (F : Nat → Prop) (η : Nat → Value) (hp : Hp) (x : κ) : WRep w F η hp (.agg [.v (.int .i64 (p x)), .v (.int .i64 (q x))]) (ekP p q x) := ⟨_, rfl, csP w F η hp _ _⟩
end Go.Proofs.YteifdlklpdjkkaaDoor
