/- Rows of ints that a call owns: append of one, append of another row. -/
import Derived.Test.YtjfkdjlmajfljaaDoorCodes
import Derived.Laws.AppendOwnNone
namespace Go.Proofs.YtjfkdjlmajfljaaDoor
open Go.ChangeShapes Go.WideShapes Go.ChangeAt Go.RowKit Go.Deep
/-- v is a row of ints of its own, made at base or later. -/
def Row (w : World) (base : Nat) (v : Value) (l : List Int) : Prop := w.ownsRow base 3 1 v l.length (l.map (Value.int .i64))
theorem int_info : (Tryd.prog.info? 3).map (fun i => (i.zero, i.size, i.bytes)) = some (some (.int .i64 0), 1, 8) := by kernel_rfl
theorem Row.nil (w : World) (base : Nat) : Row w base (.slice none 0 0) [] := World.ownsRow_nil _ _ _ _
theorem Row.holds {w : World} {base : Nat} {v : Value} {l : List Int} (h : Row w base v l) : Holds w (fun b => base ≤ b ∧ b < w.heap.size) 1 v l.length (l.map (Value.int .i64)) := Holds.of_own h
theorem Row.holdsLt {w : World} {base : Nat} {v : Value} {l : List Int} (h : Row w base v l) : Holds w (fun b => b < w.heap.size) 1 v l.length (l.map (Value.int .i64)) := h.holds.mono fun _ h => h.2
theorem Row.lower {w : World} {base base' : Nat} {v : Value} {l : List Int} (h : Row w base v l) (hb : base' ≤ base) : Row w base' v l := by
  obtain ⟨h1, h2⟩ := h
  refine ⟨h1, ?_⟩
  rcases h2 with h2 | ⟨g, cap, cur, hv, hg, r⟩
  · exact .inl h2
  · exact .inr ⟨g, cap, cur, hv, Nat.le_trans hb hg, r⟩
theorem Row.lt {w : World} {base : Nat} {v : Value} {l : List Int} (h : Row w base v l) : ∀ k, v.ownBlock = some k → base ≤ k ∧ k < w.heap.size := World.ownsRow.lt h
theorem Row.keep {w w' : World} {base : Nat} {v : Value} {l : List Int} {K : Nat → Prop} (h : Row w base v l) (hk : Keeps K w w') (hK : ∀ b, v.ownBlock = some b → K b) : Row w' base v l := by
  have hlt := h.lt
  obtain ⟨h1, h2⟩ := h
  refine ⟨h1, ?_⟩
  rcases h2 with h2 | ⟨g, cap, cur, hv, hg, hh, r⟩
  · exact .inl h2
  · have ho : v.ownBlock = some g := by rw [hv]; rfl
    exact .inr ⟨g, cap, cur, hv, hg, by rw [hk.block g (hlt g ho).2 (hK g ho)]; exact hh, r⟩
theorem Row.below {w w' : World} {base : Nat} {v : Value} {l : List Int} (h : Row w base v l) (hb : Below w.heap.size w w') : Row w' base v l := Row.keep (K := fun _ => True) h (Keeps.of_below hb) fun _ _ => trivial
theorem Row.alloc {w : World} {base : Nat} {v : Value} {l : List Int} (h : Row w base v l) (o : Obj) : Row (w.alloc o) base v l := World.ownsRow.alloc h o
theorem Row.le {w : World} {base : Nat} {v : Value} {l : List Int} (h : Row w base v l) : l.length ≤ maxLen := h.holds.le
/-- append(v, x): the walk's step, in the world behind the making of the one element. -/
theorem app_int {ops : Array Oper} {rest : List Oper} {o : Oper} {a : Act} {Q : Exit → Act → World → Prop} (hgd : o.guard = none) (s x : Operand)
    (ho : o.op = .call { callee := .builtin .append, args := #[s, x], argTypes := #[41, 41] })
    (w : World) (base : Nat) (v : Value) (l : List Int) (n : Int) (hs : a.eval s = v) (hx : a.eval x = .slice (some ⟨w.heap.size, 0, none⟩) 1 1) (h : Row w base v l) (hn : l.length ≤ 1000000) (hbase : base ≤ w.heap.size)
    (hq : ∀ v' w', Row w' base v' (l ++ [n]) → Keeps (fun b => v.ownBlock ≠ some b) w w' → wpList Tryd.prog ops Q rest (a.put o.dst v') w') :
    wpList Tryd.prog ops Q (o :: rest) a (w.alloc (.cells #[.int .i64 n] 3)) := by
  obtain ⟨i0, hi, hz0, hz1, hz2⟩ := info_parts int_info
  have h0 : w.ownsRow base 3 1 v l.length (l.map (Value.int .i64)) := h
  refine wpList_append_own _ hgd s x 41 ho base 3 i0 _ 1 8 Tryd.underlying41 hi hz0 hz1 hz2 rfl (by decide) v l.length _ hs (h0.alloc _) ⟨w.heap.size, 0, none⟩ 1 1 [.int .i64 n] hx rfl ?c1 ?c2 ?c3 ?c4 ?c5 ?_
  case c1 =>
    intro j u hj
    match j, hj with
    | 0, hj => simp at hj; subst hj; simp [Addr.add]
  case c2 => intro u hu; simp at hu; subst hu; rfl
  case c3 => unfold maxLen; omega
  case c4 => omega
  case c5 => simp; omega
  intro v' w' h1 h2 _
  refine hq v' w' ?_ (((Keeps.refl _ _).alloc _).grown h2 (fun k hk => .inl (fun hne => hne hk)))
  unfold Row
  rw [List.length_append, List.map_append]
  exact h1
/-- append(v, u...): the source may be nil. -/
theorem app_row {ops : Array Oper} {rest : List Oper} {o : Oper} {a : Act} {Q : Exit → Act → World → Prop} (hgd : o.guard = none) (s x : Operand)
    (ho : o.op = .call { callee := .builtin .append, args := #[s, x], argTypes := #[41, 41] })
    (w : World) (base base' : Nat) (v u : Value) (l m : List Int) (hs : a.eval s = v) (hx : a.eval x = u) (h : Row w base v l) (hu : Row w base' u m) (hn : l.length + m.length ≤ 1000000) (hbase : base ≤ w.heap.size)
    (hq : ∀ v' w', Row w' base v' (l ++ m) → Keeps (fun b => v.ownBlock ≠ some b) w w' → wpList Tryd.prog ops Q rest (a.put o.dst v') w') :
    wpList Tryd.prog ops Q (o :: rest) a w := by
  obtain ⟨i0, hi, hz0, hz1, hz2⟩ := info_parts int_info
  have h0 : w.ownsRow base 3 1 v l.length (l.map (Value.int .i64)) := h
  have hu0 := hu.holds
  rcases hu.2 with ⟨rfl, hm⟩ | ⟨g, cap, cur, rfl, _⟩
  · have hm0 : m = [] := List.eq_nil_of_length_eq_zero (by simpa using hm)
    subst hm0
    refine wpList_append_own_none hgd s x 41 ho base 3 i0 1 Tryd.underlying41 hi v l.length _ hs h0 hx ?_
    exact hq v w (by rw [List.append_nil]; exact h) (Keeps.refl _ _)
  · refine wpList_append_own _ hgd s x 41 ho base 3 i0 _ 1 8 Tryd.underlying41 hi hz0 hz1 hz2 rfl (by decide) v l.length _ hs h0 ⟨g, 0, none⟩ m.length cap (m.map (Value.int .i64)) hx (by simp) ?c1 ?c2 ?c3 ?c4 hbase ?_
    case c1 => exact World.ownsRow.cells hu rfl
    case c2 =>
      intro u hu
      obtain ⟨z, _, rfl⟩ := List.mem_map.1 hu
      rfl
    case c3 => unfold maxLen; omega
    case c4 => omega
    intro v' w' h1 h2 _
    refine hq v' w' ?_ ((Keeps.refl _ _).grown h2 (fun k hk => .inl (fun hne => hne hk)))
    unfold Row
    rw [List.length_append, List.map_append]
    exact h1
theorem below_app {w wr w' : World} {v : Value} {out : List Int} (hb : Below w.heap.size w wr) (h : Row wr w.heap.size v out) (hk : Keeps (fun b => v.ownBlock ≠ some b) wr w') : Below w.heap.size w w' :=
  hb.trans (hk.below (fun b hlt e => by have := (h.lt b e).1; omega) hb.size)
theorem below_drewN2 {B : Nat} {a w : World} (h : Below B a w) (n : Nat) : Below B a (w.drewN n) := ⟨h.os, h.tape, h.output, h.size, h.block⟩
end Go.Proofs.YtjfkdjlmajfljaaDoor
