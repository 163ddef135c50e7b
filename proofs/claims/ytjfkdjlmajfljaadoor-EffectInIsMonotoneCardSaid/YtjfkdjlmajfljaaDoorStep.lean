/- The steps that need no more than a look at the state, as one function. -/
import Derived.Test.YtjfkdjlmajfljaaDoorTr
namespace Go.Proofs.YtjfkdjlmajfljaaDoor
open Go.RowKit

abbrev Out := Option (SV × List (Nat × Blk) × Prop)
def okS (v : SV) : Out := some (v, [], True)
/-- The value of a slot, its head laid bare. -/
def normS : SV → Out
  | .w (.c (.v (.int k n))) => okS (iS k n)
  | .w (.c (.v (.bool b))) => okS (bS b)
  | .w (.c (.v .nil)) => okS nS
  | .w (.c (.v (.tree rows))) => okS (tS rows)
  | .w (.c (.mref b)) => okS (.w (.c (.mref b)))
  | .w (.c (.ptr b i o)) => okS (.w (.c (.ptr b i o)))
  | .w (.c (.tptr row o)) => okS (.w (.c (.tptr row o)))
  | .w (.c .one) => okS (.w (.c .one))
  | .w (.c .any) => okS (.w (.c .any))
  | .w (.agg l) => okS (.w (.agg l))
  | .tup l => okS (.tup l)
theorem normS_eq {x v : SV} {need : List (Nat × Blk)} {p : Prop} (h : normS x = some (v, need, p)) : v = x ∧ need = [] := by
  unfold normS at h
  split at h <;> (simp only [okS, Option.some.injEq, Prod.mk.injEq] at h; exact ⟨h.1.symm, h.2.1.symm⟩)

def in64 (n : Int) : Prop := -9223372036854775808 ≤ n ∧ n ≤ 9223372036854775807
def binF (op : BinOp) (k : IntKind) (m n : Int) : Out :=
  match op with
  | .lss => okS (bS (decide (m < n)))
  | .leq => okS (bS (decide (m ≤ n)))
  | .gtr => okS (bS (decide (n < m)))
  | .geq => okS (bS (decide (n ≤ m)))
  | .eql => okS (bS (decide (m = n)))
  | .neq => okS (bS (!decide (m = n)))
  | .add => match k with
    | .i64 => some (iS .i64 (m + n), [], -9223372036854775808 ≤ m + n ∧ m + n ≤ 9223372036854775807)
    | _ => none
  | .sub => match k with
    | .i64 => some (iS .i64 (m - n), [], -9223372036854775808 ≤ m - n ∧ m - n ≤ 9223372036854775807)
    | _ => none
  | .mul => match k with
    | .i64 => some (iS .i64 (m * n), [], -9223372036854775808 ≤ m * n ∧ m * n ≤ 9223372036854775807)
    | _ => none
  | .quo => match k with
    | .i64 => some (iS .i64 (m / n), [], 0 ≤ m ∧ 0 < n ∧ m ≤ 9223372036854775807)
    | _ => none
  | .rem => match k with
    | .i64 => some (iS .i64 (m % n), [], 0 ≤ m ∧ 0 < n)
    | _ => none
  | _ => none
def stepF (s : St) : Op → Out
  | .move x => normS (s.ev x)
  | .assign x => normS (s.ev x)
  | .unOp .not _ x => match s.ev x with
    | .w (.c (.v (.bool b))) => okS (bS (!b))
    | _ => none
  | .binOp op T x y _ => match s.ev x, s.ev y with
    | .w (.c (.v (.int k m))), .w (.c (.v (.int k' n))) => match k, k' with
      | .i64, .i64 => binF op .i64 m n
      | .u64, .u64 => binF op .u64 m n
      | .u8, .u8 => binF op .u8 m n
      | _, _ => none
    | .w (.c (.v (.bool p))), .w (.c (.v (.bool q))) => match (tys.get T).map (·.shp), op with
      | some Shp.bool, .eql => okS (bS (p == q))
      | some Shp.bool, .neq => okS (bS (p != q))
      | _, _ => none
    | _, _ => none
  | .load T x => match s.ev x, tys.get T with
    | .w (.c (.tptr row off)), some y => match cut y (row.map .v) off with
      | some v => okS (.w v)
      | none => none
    | .w (.c (.ptr b _ off)), some y => match lookH s.heap b with
      | some (.bx e cells) => match cut y cells off with
        | some v => some (.w v, [(b, .bx e cells)], True)
        | none => none
      | _ => none
    | _, _ => none
  | .fieldAddr T x j => match tys.get T with
    | some y => match y.shp with
      | .struct l => match l[j]? with
        | some (fo, nn, _) => match Nat.beq nn 0 with
          | true => none
          | false => match s.ev x with
            | .w (.c (.tptr row off)) => okS (.w (.c (.tptr row (off + fo))))
            | .w (.c (.ptr b i off)) => match lookH s.heap b with
              | some kb => some (.w (.c (.ptr b i (off + fo))), [(b, kb)], True)
              | none => none
            | _ => none
        | none => none
      | _ => none
    | none => none
  | .nilCheck x => match s.ev x with
    | .w (.c (.tptr row off)) => okS (.w (.c (.tptr row off)))
    | .w (.c (.ptr b i off)) => match lookH s.heap b with
      | some kb => some (.w (.c (.ptr b i off)), [(b, kb)], True)
      | none => none
    | _ => none
  | .extract x i => match s.ev x with
    | .tup l => match l[i]? with
      | some v => normS (.w v)
      | none => none
    | _ => none
  | _ => none

section
variable {N k : Nat} {Q : Po} {s : St} {all r : List Oper} {τ : List (Option Eff)} {d : Option Tmp} {ty : TypeId} {pos : String} {aft : Array Edge} {x y z : Operand}

theorem okS_eq {v v' : SV} {need : List (Nat × Blk)} {p : Prop} (h : okS v = some (v', need, p)) : v' = v ∧ need = [] := by
  simp only [okS, Option.some.injEq, Prod.mk.injEq] at h
  exact ⟨h.1.symm, h.2.1.symm⟩

theorem binF_ok {o : Oper} {ev : Operand → SV} {op : BinOp} {T T' : TypeId} {kd : IntKind} {m n : Int} {v : SV} {need : List (Nat × Blk)} {p : Prop} (ho : o.op = .binOp op T x y T') (hx : ev x = iS kd m) (hy : ev y = iS kd n) (h : binF op kd m n = some (v, need, p)) (hp : p) : OStep Tryd.prog o ev ⟨need, [], [], v⟩ ∧ need = [] := by
  unfold binF at h
  cases op <;> first | contradiction | skip
  case lss => obtain ⟨rfl, rfl⟩ := okS_eq h; exact ⟨.lss ho hx hy, rfl⟩
  case leq => obtain ⟨rfl, rfl⟩ := okS_eq h; exact ⟨.leq ho hx hy, rfl⟩
  case gtr => obtain ⟨rfl, rfl⟩ := okS_eq h; exact ⟨.gtr ho hx hy, rfl⟩
  case geq => obtain ⟨rfl, rfl⟩ := okS_eq h; exact ⟨.geq ho hx hy, rfl⟩
  case eql => obtain ⟨rfl, rfl⟩ := okS_eq h; exact ⟨.eql ho hx hy, rfl⟩
  case neq => obtain ⟨rfl, rfl⟩ := okS_eq h; exact ⟨.neq ho hx hy, rfl⟩
  case add =>
    cases kd <;> first | contradiction | skip
    simp only [Option.some.injEq, Prod.mk.injEq] at h
    obtain ⟨rfl, rfl, rfl⟩ := h
    exact ⟨.add ho hx hy hp, rfl⟩
  case sub =>
    cases kd <;> first | contradiction | skip
    simp only [Option.some.injEq, Prod.mk.injEq] at h
    obtain ⟨rfl, rfl, rfl⟩ := h
    exact ⟨.sub ho hx hy hp, rfl⟩
  case mul =>
    cases kd <;> first | contradiction | skip
    simp only [Option.some.injEq, Prod.mk.injEq] at h
    obtain ⟨rfl, rfl, rfl⟩ := h
    exact ⟨.mul ho hx hy hp, rfl⟩
  case quo =>
    cases kd <;> first | contradiction | skip
    simp only [Option.some.injEq, Prod.mk.injEq] at h
    obtain ⟨rfl, rfl, rfl⟩ := h
    obtain ⟨h0, h1, hm⟩ := hp
    have e : m.tdiv n = m / n := Int.tdiv_eq_ediv_of_nonneg h0
    have h2 : 0 ≤ m / n := Int.ediv_nonneg h0 (by omega)
    have h3 : m / n ≤ m := Int.ediv_le_self n h0
    have := OStep.quo (P := Tryd.prog) ho hx hy (by omega) (by rw [e]; omega)
    rw [e] at this
    exact ⟨this, rfl⟩
  case rem =>
    cases kd <;> first | contradiction | skip
    simp only [Option.some.injEq, Prod.mk.injEq] at h
    obtain ⟨rfl, rfl, rfl⟩ := h
    obtain ⟨h0, h1⟩ := hp
    have e : m.tmod n = m % n := Int.tmod_eq_emod_of_nonneg h0
    have := OStep.rem (P := Tryd.prog) ho hx hy (by omega)
    rw [e] at this
    exact ⟨this, rfl⟩

theorem stepF_ok {o : Oper} {op : Op} {v : SV} {need : List (Nat × Blk)} {p : Prop} (ho : o.op = op) (h : stepF s op = some (v, need, p)) (hp : p) : OStep Tryd.prog o s.ev ⟨need, [], [], v⟩ ∧ s.needOk need := by
  unfold stepF at h
  split at h
  · obtain ⟨rfl, rfl⟩ := normS_eq h; exact ⟨.move ho, trivial⟩
  · obtain ⟨rfl, rfl⟩ := normS_eq h; exact ⟨.assign ho, trivial⟩
  · split at h
    · rename_i hx; obtain ⟨rfl, rfl⟩ := okS_eq h; exact ⟨.not ho hx, trivial⟩
    · cases h
  · split at h
    · rename_i hx hy
      split at h <;> first
        | (obtain ⟨h1, rfl⟩ := binF_ok ho hx hy h hp; exact ⟨h1, trivial⟩)
        | cases h
    · rename_i hx hy
      split at h
      · rename_i hT
        rw [Option.map_eq_some_iff] at hT
        obtain ⟨yy, h1, h2⟩ := hT
        obtain ⟨rfl, rfl⟩ := okS_eq h
        exact ⟨.boolEq ((fits h1).bool h2) ho hx hy, trivial⟩
      · rename_i hT
        rw [Option.map_eq_some_iff] at hT
        obtain ⟨yy, h1, h2⟩ := hT
        obtain ⟨rfl, rfl⟩ := okS_eq h
        exact ⟨.boolNe ((fits h1).bool h2) ho hx hy, trivial⟩
      · cases h
    · cases h
  · split at h
    · rename_i hx hT
      split at h
      · rename_i hc
        obtain ⟨rfl, rfl⟩ := okS_eq h
        exact ⟨.loadT ho hx (fits hT) hc, trivial⟩
      · cases h
    · rename_i hx hT
      split at h
      · rename_i hb
        split at h
        · rename_i hc
          simp only [Option.some.injEq, Prod.mk.injEq] at h
          obtain ⟨rfl, rfl, rfl⟩ := h
          exact ⟨.loadBx ho hx (fits hT) hc, hb, trivial⟩
        · cases h
      · cases h
    · cases h
  · split at h
    · rename_i hT
      split at h
      · rename_i hs
        split at h
        · rename_i hj
          split at h
          · cases h
          · rename_i hnn
            have hn0 : ∀ {q : Nat}, Nat.beq q 0 = false → q ≠ 0 := fun h e => by subst e; cases h
            split at h
            · rename_i hx
              obtain ⟨rfl, rfl⟩ := okS_eq h
              exact ⟨.fldT ho hx (fits hT) hs hj (hn0 hnn), trivial⟩
            · rename_i hx
              split at h
              · rename_i kb hb
                simp only [Option.some.injEq, Prod.mk.injEq] at h
                obtain ⟨rfl, rfl, rfl⟩ := h
                cases kb with
                | sl e sz f rows => exact ⟨.fldSl ho hx (fits hT) hs hj (hn0 hnn), hb, trivial⟩
                | bx e cells => exact ⟨.fldBx ho hx (fits hT) hs hj (hn0 hnn), hb, trivial⟩
              · cases h
            · cases h
        · cases h
      · cases h
    · cases h
  · split at h
    · rename_i hx; obtain ⟨rfl, rfl⟩ := okS_eq h; exact ⟨.nilTptr ho hx, trivial⟩
    · rename_i hx
      split at h
      · rename_i hb
        simp only [Option.some.injEq, Prod.mk.injEq] at h
        obtain ⟨rfl, rfl, rfl⟩ := h
        exact ⟨.nilPtr ho hx, hb, trivial⟩
      · cases h
    · cases h
  · split at h
    · rename_i hx
      split at h
      · rename_i hi
        obtain ⟨rfl, rfl⟩ := normS_eq h
        exact ⟨.extract ho hx hi, trivial⟩
      · cases h
    · cases h
  · cases h

theorem G.step {op : Op} {v : SV} {need : List (Nat × Blk)} {p : Prop} (h : stepF s op = some (v, need, p)) (hd : dstB N d = true) (hp : p) (h' : TRun N k all Q r (s.put d v) (some ⟨need, [], [], v⟩ :: τ)) : TRun N k all Q (⟨d, op, ty, pos, aft, none⟩ :: r) s τ := by
  obtain ⟨h1, h2⟩ := stepF_ok (o := ⟨d, op, ty, pos, aft, none⟩) rfl h hp
  exact G.op h1 h2 rfl hd h'
theorem G.guardT {op : Op} {j dg : Nat} {want b : Bool} (hd : (all[j]?).bind (·.dst) = some dg) (hb : lookS s.slots dg = bS b) (hbw : b = want) (hN : dstB N d = true) (h1 : TRun N k all Q (⟨d, op, ty, pos, aft, none⟩ :: r) s τ) : TRun N k all Q (⟨d, op, ty, pos, aft, some (j, want)⟩ :: r) s τ := G.guard hd hb hN (fun _ => h1) fun h => absurd hbw h
theorem G.guardF {op : Op} {j dg : Nat} {want b : Bool} (hd : (all[j]?).bind (·.dst) = some dg) (hb : lookS s.slots dg = bS b) (hbw : b = !want) (hN : dstB N d = true) (h2 : TRun N k all Q r (s.put d uS) (none :: τ)) : TRun N k all Q (⟨d, op, ty, pos, aft, some (j, want)⟩ :: r) s τ := G.guard hd hb hN (fun h => by rw [h] at hbw; cases want <;> cases hbw) fun _ => h2
/-- A guard that is not decided. -/
theorem G.guardS {op : Op} {j dg : Nat} {b : Bool} (hd : (all[j]?).bind (·.dst) = some dg) (hb : lookS s.slots dg = bS b) (hN : dstB N d = true) (h1 : b = true → TRun N k all Q (⟨d, op, ty, pos, aft, none⟩ :: r) s τ) (h2 : b = false → TRun N k all Q r (s.put d uS) (none :: τ)) : TRun N k all Q (⟨d, op, ty, pos, aft, some (j, true)⟩ :: r) s τ := G.guard hd hb hN h1 fun h => h2 (by cases b <;> first | rfl | exact absurd rfl h)
theorem G.guardR {op : Op} {j dg : Nat} {b : Bool} (hd : (all[j]?).bind (·.dst) = some dg) (hb : lookS s.slots dg = bS b) (hN : dstB N d = true) (h1 : b = false → TRun N k all Q (⟨d, op, ty, pos, aft, none⟩ :: r) s τ) (h2 : b = true → TRun N k all Q r (s.put d uS) (none :: τ)) : TRun N k all Q (⟨d, op, ty, pos, aft, some (j, false)⟩ :: r) s τ := G.guard hd hb hN h1 fun h => h2 (by cases b <;> first | rfl | exact absurd rfl h)
theorem G.guardF1 {op : Op} {j dg : Nat} {b : Bool} (hd : (all[j]?).bind (·.dst) = some dg) (hb : lookS s.slots dg = bS b) (hbw : b = false) (hN : dstB N d = true) (h2 : TRun N k all Q r (s.put d uS) (none :: τ)) : TRun N k all Q (⟨d, op, ty, pos, aft, some (j, true)⟩ :: r) s τ := G.guardF hd hb hbw hN h2
theorem G.guardF0 {op : Op} {j dg : Nat} {b : Bool} (hd : (all[j]?).bind (·.dst) = some dg) (hb : lookS s.slots dg = bS b) (hbw : b = true) (hN : dstB N d = true) (h2 : TRun N k all Q r (s.put d uS) (none :: τ)) : TRun N k all Q (⟨d, op, ty, pos, aft, some (j, false)⟩ :: r) s τ := G.guardF hd hb hbw hN h2
end
#print axioms G.step
end Go.Proofs.YtjfkdjlmajfljaaDoor
