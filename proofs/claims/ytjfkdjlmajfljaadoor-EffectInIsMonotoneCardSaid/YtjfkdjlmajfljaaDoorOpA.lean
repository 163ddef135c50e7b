/- One operation on abstract values: numbers, bools, moves, structs by value. -/
import Derived.Test.YtjfkdjlmajfljaaDoorTy
namespace Go.Proofs.YtjfkdjlmajfljaaDoor
open Go.RowKit

/-- What one operation does: the blocks that it looks at, the numbers that it takes for new blocks, what becomes of the blocks, its value. -/
structure Eff where
  need : List (Nat × Blk)
  new : List Nat
  upd : List (Nat × Option Blk)
  r : SV

def OStep (P : Program) (o : Oper) (ev : Operand → SV) (ρ : Eff) : Prop :=
  ∀ (C : Ctx) (w : World) (η : Nat → Value) (F : Nat → Prop) (sl : Sl) (hp : Hp) (N : Nat) (a : Act) (K : Act → World → Prop) (Q : Exit → Act → World → Prop),
    Reps C w η F sl hp N a → (∀ x ∈ o.op.operands.toList, evalS sl x = ev x) → (∀ p ∈ ρ.need, hp p.1 = some p.2) →
    (∀ b ∈ ρ.new, hp b = none ∧ UnmentB hp b ∧ UnmentS sl b ∧ C.bs.length ≤ b) → (∀ t, o.dst = some t → t < N) →
    (∀ v w' η' F', Reps C w' η' F' (sl.put o.dst ρ.r) (hpUpd hp ρ.upd) N (a.put o.dst v) → K (a.put o.dst v) w') → o.wp P a w K Q

theorem Tr.int_inv {w : World} {F : Nat → Prop} {k : IntKind} {n : Int} {u : Value} (h : Tr w F (.int k n) u) : u = .int k n := by cases h; rfl
theorem Tr.bool_inv {w : World} {F : Nat → Prop} {b : Bool} {u : Value} (h : Tr w F (.bool b) u) : u = .bool b := by cases h; rfl
theorem Tr.nil_inv {w : World} {F : Nat → Prop} {u : Value} (h : Tr w F .nil u) : u = .slice none 0 0 := by cases h; rfl

def iS (k : IntKind) (n : Int) : SV := .w (.c (.v (.int k n)))
def bS (b : Bool) : SV := .w (.c (.v (.bool b)))
def tS (rows : List (List TV)) : SV := .w (.c (.v (.tree rows)))
def nS : SV := .w (.c (.v .nil))

section
variable {P : Program} {C : Ctx} {w : World} {η : Nat → Value} {F : Nat → Prop} {sl : Sl} {hp : Hp} {N : Nat} {a : Act} {o : Oper} {ev : Operand → SV}

theorem Reps.int (h : Reps C w η F sl hp N a) {x : Operand} {k : IntKind} {n : Int} (e : evalS sl x = iS k n) : a.eval x = .int k n := by
  have := h.eval x
  rw [e] at this
  exact Tr.int_inv this
theorem Reps.boolv (h : Reps C w η F sl hp N a) {x : Operand} {b : Bool} (e : evalS sl x = bS b) : a.eval x = .bool b := by
  have := h.eval x
  rw [e] at this
  exact Tr.bool_inv this
theorem Reps.nilv (h : Reps C w η F sl hp N a) {x : Operand} (e : evalS sl x = nS) : a.eval x = .slice none 0 0 := by
  have := h.eval x
  rw [e] at this
  exact Tr.nil_inv this
theorem Reps.treev (h : Reps C w η F sl hp N a) {x : Operand} {rows : List (List TV)} (e : evalS sl x = tS rows) : Tr w F (.tree rows) (a.eval x) := by
  have := h.eval x
  rw [e] at this
  exact this
theorem Reps.mrefv (h : Reps C w η F sl hp N a) {x : Operand} {b : Nat} {e : TypeId} {sz : Nat} {f : Bool} {rows : List (List TV)} (he : evalS sl x = .w (.c (.mref b))) (hb : hp b = some (.sl e sz f rows)) : a.eval x = η b := by
  have := h.eval x
  rw [he] at this
  simp only [SRep, WRep, CRep, hb] at this
  exact this

/-- An operation that leaves the world alone. -/
theorem OStep.pure {need : List (Nat × Blk)} {r : SV}
    (h : ∀ (C : Ctx) (w : World) (η : Nat → Value) (F : Nat → Prop) (sl : Sl) (hp : Hp) (N : Nat) (a : Act), Reps C w η F sl hp N a → (∀ x ∈ o.op.operands.toList, evalS sl x = ev x) → (∀ p ∈ need, hp p.1 = some p.2) →
      ∃ v, (execOp a.eval o).run P w = .ok (.value v) w ∧ SRep w F η hp r v) : OStep P o ev ⟨need, [], [], r⟩ := by
  intro C w η F sl hp N a K Q hR hev hn _ hd hK
  obtain ⟨v, h1, h2⟩ := h C w η F sl hp N a hR hev hn
  unfold Oper.wp
  rw [h1]
  exact hK v w η F (hR.put h2 hd)

/-- An operation that makes a new world. -/
theorem OStep.heap {need : List (Nat × Blk)} {new : List Nat} {upd : List (Nat × Option Blk)} {r : SV}
    (h : ∀ (C : Ctx) (w : World) (η : Nat → Value) (F : Nat → Prop) (sl : Sl) (hp : Hp) (N : Nat) (a : Act), Reps C w η F sl hp N a → (∀ x ∈ o.op.operands.toList, evalS sl x = ev x) → (∀ p ∈ need, hp p.1 = some p.2) →
      (∀ b ∈ new, hp b = none ∧ UnmentB hp b ∧ UnmentS sl b ∧ C.bs.length ≤ b) →
      ∃ v w' η' F', ((execOp a.eval o).run P w = .ok (.value v) w' ∨ ((execOp a.eval o).run P w = .ok .skip w' ∧ v = undef)) ∧ HRep C w' η' F' (hpUpd hp upd) ∧ (∀ g, F g → F' g) ∧ (∀ g, F g → w'.heap[g]? = w.heap[g]?) ∧
        (∀ c, UnmentS sl c ∨ Stays η η' hp (hpUpd hp upd) c) ∧ SRep w' F' η' (hpUpd hp upd) r v) : OStep P o ev ⟨need, new, upd, r⟩ := by
  intro C w η F sl hp N a K Q hR hev hn hnew hd hK
  obtain ⟨v, w', η', F', h1, h2, h3, h4, h5, h6⟩ := h C w η F sl hp N a hR hev hn hnew
  have hR' : Reps C w' η' F' sl (hpUpd hp upd) N a := ⟨hR.size, hR.defers, fun t => hR.heap.slot (hR.slots t) h3 h4 fun c => (h5 c).imp (fun h => h t) id, h2⟩
  unfold Oper.wp
  rcases h1 with h1 | ⟨h1, rfl⟩
  · rw [h1]
    exact hK v w' η' F' (hR'.put h6 hd)
  · rw [h1]
    exact hK undef w' η' F' (hR'.put h6 hd)

theorem OStep.move {x : Operand} (ho : o.op = .move x) : OStep P o ev ⟨[], [], [], ev x⟩ :=
  .pure fun C w η F sl hp N a hR hev _ => ⟨a.eval x, by unfold execOp; rw [ho]; rfl, by rw [← hev x (by simp [ho, Op.operands])]; exact hR.eval x⟩
theorem OStep.assign {x : Operand} (ho : o.op = .assign x) : OStep P o ev ⟨[], [], [], ev x⟩ :=
  .pure fun C w η F sl hp N a hR hev _ => ⟨a.eval x, by unfold execOp; rw [ho]; rfl, by rw [← hev x (by simp [ho, Op.operands])]; exact hR.eval x⟩
theorem OStep.pickT {c x y : Operand} (ho : o.op = .pick c x y) (hc : ev c = bS true) : OStep P o ev ⟨[], [], [], ev x⟩ :=
  .pure fun C w η F sl hp N a hR hev _ => by
    have e := hR.boolv ((hev c (by simp [ho, Op.operands])).trans hc)
    refine ⟨a.eval x, ?_, by rw [← hev x (by simp [ho, Op.operands])]; exact hR.eval x⟩
    unfold execOp; rw [ho]; simp [e, asBool]
theorem OStep.pickF {c x y : Operand} (ho : o.op = .pick c x y) (hc : ev c = bS false) : OStep P o ev ⟨[], [], [], ev y⟩ :=
  .pure fun C w η F sl hp N a hR hev _ => by
    have e := hR.boolv ((hev c (by simp [ho, Op.operands])).trans hc)
    refine ⟨a.eval y, ?_, by rw [← hev y (by simp [ho, Op.operands])]; exact hR.eval y⟩
    unfold execOp; rw [ho]; simp [e, asBool]
theorem OStep.not {x : Operand} {T : TypeId} {b : Bool} (ho : o.op = .unOp .not T x) (hx : ev x = bS b) : OStep P o ev ⟨[], [], [], bS (!b)⟩ :=
  .pure fun C w η F sl hp N a hR hev _ => by
    have e := hR.boolv ((hev x (by simp [ho, Op.operands])).trans hx)
    refine ⟨.bool (!b), ?_, .bool _⟩
    unfold execOp; rw [ho]; simp [e, Op.unary]
theorem OStep.neg64 {x : Operand} {T : TypeId} {n : Int} (ho : o.op = .unOp .neg T x) (hx : ev x = iS .i64 n) (h1 : -9223372036854775808 < n) (h2 : n ≤ 9223372036854775808) : OStep P o ev ⟨[], [], [], iS .i64 (-n)⟩ :=
  .pure fun C w η F sl hp N a hR hev _ => by
    have e := hR.int ((hev x (by simp [ho, Op.operands])).trans hx)
    refine ⟨.int .i64 (-n), ?_, .int _ _⟩
    unfold execOp; rw [ho]; simp [e, Op.unary, Op.intArith, IntWalk.i64_in (-n) (by omega)]
theorem OStep.int2 {op : BinOp} {T T' : TypeId} {x y : Operand} {k k' : IntKind} {m n : Int} {r : TV} {v : Value} (ho : o.op = .binOp op T x y T') (hx : ev x = iS k m) (hy : ev y = iS k' n)
    (hr : ∀ w, (binOp op T (.int k m) (.int k' n)).run P w = .ok v w) (hv : ∀ w F, Tr w F r v) : OStep P o ev ⟨[], [], [], .w (.c (.v r))⟩ :=
  .pure fun C w η F sl hp N a hR hev _ => by
    have e1 := hR.int ((hev x (by simp [ho, Op.operands])).trans hx)
    have e2 := hR.int ((hev y (by simp [ho, Op.operands])).trans hy)
    refine ⟨v, ?_, hv w F⟩
    unfold execOp; rw [ho]; simp only [e1, e2]
    have hg : (eqGuard op T x y (.int k m) (.int k' n)).run P w = .ok () w := by unfold eqGuard; cases op <;> rfl
    simp only [Sem.run_bind, hg, Result.andThen_ok, hr w]
    rfl
theorem OStep.lss {T T' : TypeId} {x y : Operand} {k : IntKind} {m n : Int} (ho : o.op = .binOp .lss T x y T') (hx : ev x = iS k m) (hy : ev y = iS k n) : OStep P o ev ⟨[], [], [], bS (decide (m < n))⟩ :=
  .int2 ho hx hy (fun w => by simp [binOp, Op.intCmp]) (fun _ _ => .bool _)
theorem OStep.leq {T T' : TypeId} {x y : Operand} {k : IntKind} {m n : Int} (ho : o.op = .binOp .leq T x y T') (hx : ev x = iS k m) (hy : ev y = iS k n) : OStep P o ev ⟨[], [], [], bS (decide (m ≤ n))⟩ :=
  .int2 ho hx hy (fun w => by simp [binOp, Op.intCmp]) (fun _ _ => .bool _)
theorem OStep.gtr {T T' : TypeId} {x y : Operand} {k : IntKind} {m n : Int} (ho : o.op = .binOp .gtr T x y T') (hx : ev x = iS k m) (hy : ev y = iS k n) : OStep P o ev ⟨[], [], [], bS (decide (n < m))⟩ :=
  .int2 ho hx hy (fun w => by simp [binOp, Op.intCmp]) (fun _ _ => .bool _)
theorem OStep.geq {T T' : TypeId} {x y : Operand} {k : IntKind} {m n : Int} (ho : o.op = .binOp .geq T x y T') (hx : ev x = iS k m) (hy : ev y = iS k n) : OStep P o ev ⟨[], [], [], bS (decide (n ≤ m))⟩ :=
  .int2 ho hx hy (fun w => by simp [binOp, Op.intCmp]) (fun _ _ => .bool _)
theorem OStep.eql {T T' : TypeId} {x y : Operand} {k : IntKind} {m n : Int} (ho : o.op = .binOp .eql T x y T') (hx : ev x = iS k m) (hy : ev y = iS k n) : OStep P o ev ⟨[], [], [], bS (decide (m = n))⟩ :=
  .int2 ho hx hy (v := .bool (m == n)) (fun w => by simp [binOp, Op.intCmp]) (fun _ _ => by rw [show (m == n) = decide (m = n) from rfl]; exact .bool _)
theorem OStep.neq {T T' : TypeId} {x y : Operand} {k : IntKind} {m n : Int} (ho : o.op = .binOp .neq T x y T') (hx : ev x = iS k m) (hy : ev y = iS k n) : OStep P o ev ⟨[], [], [], bS (!decide (m = n))⟩ :=
  .int2 ho hx hy (v := .bool (m != n)) (fun w => by simp [binOp, Op.intCmp]) (fun _ _ => by rw [show (m != n) = !decide (m = n) from rfl]; exact .bool _)
theorem OStep.add {T T' : TypeId} {x y : Operand} {m n : Int} (ho : o.op = .binOp .add T x y T') (hx : ev x = iS .i64 m) (hy : ev y = iS .i64 n) (h : -9223372036854775808 ≤ m + n ∧ m + n ≤ 9223372036854775807) : OStep P o ev ⟨[], [], [], iS .i64 (m + n)⟩ :=
  .int2 ho hx hy (v := .int .i64 (m + n)) (fun w => by simp [binOp, Op.intArith, IntWalk.i64_in (m + n) h]) (fun _ _ => .int _ _)
theorem OStep.sub {T T' : TypeId} {x y : Operand} {m n : Int} (ho : o.op = .binOp .sub T x y T') (hx : ev x = iS .i64 m) (hy : ev y = iS .i64 n) (h : -9223372036854775808 ≤ m - n ∧ m - n ≤ 9223372036854775807) : OStep P o ev ⟨[], [], [], iS .i64 (m - n)⟩ :=
  .int2 ho hx hy (v := .int .i64 (m - n)) (fun w => by simp [binOp, Op.intArith, IntWalk.i64_in (m - n) h]) (fun _ _ => .int _ _)
theorem OStep.mul {T T' : TypeId} {x y : Operand} {m n : Int} (ho : o.op = .binOp .mul T x y T') (hx : ev x = iS .i64 m) (hy : ev y = iS .i64 n) (h : -9223372036854775808 ≤ m * n ∧ m * n ≤ 9223372036854775807) : OStep P o ev ⟨[], [], [], iS .i64 (m * n)⟩ :=
  .int2 ho hx hy (v := .int .i64 (m * n)) (fun w => by simp [binOp, Op.intArith, IntWalk.i64_in (m * n) h]) (fun _ _ => .int _ _)
theorem OStep.quo {T T' : TypeId} {x y : Operand} {m n : Int} (ho : o.op = .binOp .quo T x y T') (hx : ev x = iS .i64 m) (hy : ev y = iS .i64 n) (h0 : n ≠ 0) (h : -9223372036854775808 ≤ m.tdiv n ∧ m.tdiv n ≤ 9223372036854775807) : OStep P o ev ⟨[], [], [], iS .i64 (m.tdiv n)⟩ :=
  .int2 ho hx hy (v := .int .i64 (m.tdiv n)) (fun w => by simp [binOp, Op.intDiv, h0, IntWalk.i64_in (m.tdiv n) h]) (fun _ _ => .int _ _)
theorem OStep.rem {T T' : TypeId} {x y : Operand} {m n : Int} (ho : o.op = .binOp .rem T x y T') (hx : ev x = iS .i64 m) (hy : ev y = iS .i64 n) (h0 : n ≠ 0) : OStep P o ev ⟨[], [], [], iS .i64 (m.tmod n)⟩ :=
  .int2 ho hx hy (v := .int .i64 (m.tmod n)) (fun w => by simp [binOp, Op.intDiv, h0]) (fun _ _ => .int _ _)
theorem OStep.shl {T T' : TypeId} {x y : Operand} {k : IntKind} {m n : Int} (ho : o.op = .binOp .shl T x y T') (hx : ev x = iS .i64 m) (hy : ev y = iS k n) (h0 : 0 ≤ n) (h1 : n ≤ 64) (h : -9223372036854775808 ≤ m * 2 ^ n.toNat ∧ m * 2 ^ n.toNat ≤ 9223372036854775807) : OStep P o ev ⟨[], [], [], iS .i64 (m * 2 ^ n.toNat)⟩ :=
  .int2 ho hx hy (v := .int .i64 (m * 2 ^ n.toNat)) (fun w => by
    have e : min n.toNat 64 = n.toNat := by omega
    have e2 : ¬ n < 0 := by omega
    simp [binOp, IntWalk.i64_in _ h, *]) (fun _ _ => .int _ _)
theorem OStep.shr {T T' : TypeId} {x y : Operand} {k k' : IntKind} {m n : Int} (ho : o.op = .binOp .shr T x y T') (hx : ev x = iS k m) (hy : ev y = iS k' n) (h0 : 0 ≤ n) (h1 : n ≤ 64) (hk : k = .i64 ∨ k = .u64) : OStep P o ev ⟨[], [], [], iS k (m / 2 ^ n.toNat)⟩ :=
  .int2 ho hx hy (v := .int k (m / 2 ^ n.toNat)) (fun w => by
    have e : min n.toNat 64 = n.toNat := by omega
    have e2 : ¬ n < 0 := by omega
    rcases hk with rfl | rfl <;> simp [binOp, *]) (fun _ _ => .int _ _)
theorem OStep.conv {T T' : TypeId} {x : Operand} {k k' : IntKind} {m : Int} (ho : o.op = .convert T T' x) (hx : ev x = iS k m) (hu : P.underlying T = some (.int k)) (hu' : P.underlying T' = some (.int k')) (h : k'.wrap m = m) : OStep P o ev ⟨[], [], [], iS k' m⟩ :=
  .pure fun C w η F sl hp N a hR hev _ => by
    have e := hR.int ((hev x (by simp [ho, Op.operands])).trans hx)
    refine ⟨.int k' m, ?_, .int _ _⟩
    unfold execOp; rw [ho]
    simp [e, convert, run_underlying hu, run_underlying hu', Conv.intToInt, h]
theorem OStep.boolEq {T T' : TypeId} {x y : Operand} {m n : Bool} (hu : P.underlying T = some .bool) (ho : o.op = .binOp .eql T x y T') (hx : ev x = bS m) (hy : ev y = bS n) : OStep P o ev ⟨[], [], [], bS (m == n)⟩ :=
  .pure fun C w η F sl hp N a hR hev _ => by
    have e1 := hR.boolv ((hev x (by simp [ho, Op.operands])).trans hx)
    have e2 := hR.boolv ((hev y (by simp [ho, Op.operands])).trans hy)
    refine ⟨.bool (m == n), ?_, .bool _⟩
    have hq : (Op.equal T (.bool m) (.bool n)).run P w = .ok (m == n) w := by unfold Op.equal Op.maxDepth; rw [Op.equalIn]; simp [run_underlying hu]
    have hb : binOp .eql T (.bool m) (.bool n) = (do Pure.pure (Value.bool (← Op.equal T (.bool m) (.bool n)))) := rfl
    have hg : (eqGuard .eql T x y (.bool m) (.bool n)).run P w = .ok () w := rfl
    unfold execOp; rw [ho]; simp only [e1, e2, Sem.run_bind, hg, Result.andThen_ok, hb, hq]
    rfl
theorem OStep.boolNe {T T' : TypeId} {x y : Operand} {m n : Bool} (hu : P.underlying T = some .bool) (ho : o.op = .binOp .neq T x y T') (hx : ev x = bS m) (hy : ev y = bS n) : OStep P o ev ⟨[], [], [], bS (m != n)⟩ :=
  .pure fun C w η F sl hp N a hR hev _ => by
    have e1 := hR.boolv ((hev x (by simp [ho, Op.operands])).trans hx)
    have e2 := hR.boolv ((hev y (by simp [ho, Op.operands])).trans hy)
    refine ⟨.bool (m != n), ?_, .bool _⟩
    have hq : (Op.equal T (.bool m) (.bool n)).run P w = .ok (m == n) w := by unfold Op.equal Op.maxDepth; rw [Op.equalIn]; simp [run_underlying hu]
    have hb : binOp .neq T (.bool m) (.bool n) = (do Pure.pure (Value.bool (!(← Op.equal T (.bool m) (.bool n))))) := rfl
    have hg : (eqGuard .neq T x y (.bool m) (.bool n)).run P w = .ok () w := rfl
    unfold execOp; rw [ho]; simp only [e1, e2, Sem.run_bind, hg, Result.andThen_ok, hb, hq]
    rfl
/-- extract of a tuple -/
theorem OStep.extract {x : Operand} {i : Nat} {l : List WV} {y : WV} (ho : o.op = .extract x i) (hx : ev x = .tup l) (hi : l[i]? = some y) : OStep P o ev ⟨[], [], [], .w y⟩ :=
  .pure fun C w η F sl hp N a hR hev _ => by
    have := hR.eval x
    rw [hev x (by simp [ho, Op.operands]), hx] at this
    obtain ⟨us, h1, h2, h3⟩ := this
    have hl : i < us.length := by rw [h2]; exact (List.getElem?_eq_some_iff.1 hi).1
    refine ⟨us[i], ?_, h3 i y us[i] hi (List.getElem?_eq_getElem hl)⟩
    unfold execOp; rw [ho]; simp [h1, Instr.extract, hl]
end
#print axioms OStep.extract
end Go.Proofs.YtjfkdjlmajfljaaDoor
