/- A function that sorts a row of one's own in place: what a contract of the library says, on abstract values. -/
import Derived.Test.YthlpmklgokjdkaaMc
import Derived.Shelf.GgSortFunc.InsertionK
set_option linter.unusedVariables false
namespace Go.Proofs.Ythlpmklgokjdkaa
open Go.RowKit Go.Sort Q

def encS {α : Type} (g : α → List TV) (x : α) : List Value := (g x).map TV.val0
theorem Tr.sc_val {w : World} {F : Nat → Prop} {t : TV} {u : Value} (h : Tr w F t u) (hs : scT t = true) : u = t.val0 := by
  cases h <;> first | rfl | cases hs
theorem Tr.of_sc {w : World} {F : Nat → Prop} {t : TV} (hs : scT t = true) : Tr w F t t.val0 := by
  cases t <;> first | exact .int _ _ | exact .bool _ | cases hs

/-- Function f, called with a row of elements and the function value fv, sorts the row. -/
structure SortC (P : Program) (f : FuncId) (fv : Value) {α : Type} [Inhabited α] (g : α → List TV) (sz : Nat) (srt : List α → List α) : Prop where
  fn : ∃ fn, P.funcs[f]? = some fn ∧ (fn.name == "runtime.NumGoroutine") = false ∧ fn.body.isNone = false
  len : ∀ l, (srt l).length = l.length
  row : ∀ x, (g x).length = sz
  sc : ∀ x, (g x).all scT = true
  pos : 0 < sz
  call : ∀ (w : World) (b cap : Nat) (l : List α), HoldsK (encS g) sz w b 0 l.toArray → b < w.heap.size → l.length < 4611686018427387904 → Calls P f #[.slice (some ⟨b, 0, none⟩) l.length cap, fv] w fun e w' => e = .returned (.tuple #[]) ∧ ∃ n os, w' = sortWorldK (encS g) sz w b 0 n (srt l).toArray os
  none : ∀ (w : World), Calls P f #[.slice none 0 0, fv] w fun e w' => e = .returned (.tuple #[]) ∧ w' = w

section
variable {P : Program} {C : Ctx} {w w' : World} {η : Nat → Value} {F : Nat → Prop} {sl : Sl} {hp : Hp} {N : Nat} {a : Act} {o : Oper} {ev : Operand → SV} {α : Type} [Inhabited α]

/-- A row of one's own is rewritten where it lies. -/
theorem turnSl (h : HRep C w η F hp) {b : Nat} {e : TypeId} {sz : Nat} {rows rs : List (List TV)} (hb : hp b = some (.sl e sz false rows)) (hg : w.grownBy w' (η b).ownBlock) (hbr : (∀ g, F g → w'.heap[g]? = w.heap[g]?) → BRep w' F η (hpSet hp b (some (.sl e sz false rs))) b (.sl e sz false rs)) :
    HRep C w' η F (hpSet hp b (some (.sl e sz false rs))) ∧ (∀ g, F g → w'.heap[g]? = w.heap[g]?) ∧ ∀ c, Stays η η hp (hpSet hp b (some (.sl e sz false rs))) c := by
  have hob : ∀ g, Own (η b) g ↔ (η b).ownBlock = some g := fun g => by
    obtain ⟨cells, h2, h3, h4⟩ := h.blocks b _ hb
    exact own_block h2
  have hFc : ∀ g, F g → w'.heap[g]? = w.heap[g]? := fun g hgF => hg.block g (h.Flt g hgF) (fun e => h.liveF b _ g hb rfl ((hob g).2 e.symm) hgF)
  have hst : ∀ c, Stays η η hp (hpSet hp b (some (.sl e sz false rs))) c := fun c => by
    by_cases hcb : c = b
    · subst hcb; exact .inr (.inl ⟨e, sz, false, rows, false, rs, hb, hpSet_same _ _ _, rfl⟩)
    · exact Stays.of_same (hpSet_other hcb) rfl
  refine ⟨?_, hFc, hst⟩
  refine h.step (fun c => c = b) (fun c hc => ⟨hpSet_other hc, rfl⟩) (fun c k g hc hk hl hgo => ?_) hg.size (fun _ h => h) hFc (fun c => .inr (hst c)) (fun c k hc hk => ?_) (fun c c' k1 k2 g hc h1 h2 hne hl1 hl2 hgo => ?_) (fun _ _ _ _ _ _ h => .inl h)
      (fun c k g hc hk hl hgo hF => ?_) (fun c k g hc hk hl hgo => ?_) (fun g hgF => Nat.lt_of_lt_of_le (h.Flt g hgF) hg.size) (fun c k g hc hk hl hgo => ?_) (fun j v k hj hjg hk => ?_) ?_ h.Fbd
  · exact hg.block g (h.lt hk hgo) (fun e => h.sep c b k _ g hk hb hc hl rfl hgo ((hob g).2 e.symm))
  · subst hc
    rw [hpSet_same] at hk; injection hk with hk; subst hk; exact hbr hFc
  · subst hc
    rw [hpSet_other (Ne.symm hne)] at h2
    exact h.sep c c' _ k2 g hb h2 hne rfl hl2 hgo
  · subst hc; exact h.liveF c _ g hb rfl hgo hF
  · subst hc; rw [hpSet_same] at hk; injection hk with hk; subst hk; cases hl
  · subst hc; exact h.fresh c _ g hb rfl hgo
  · subst hj
    rw [hpSet_same] at hk; injection hk with hk; subst hk
    exact ⟨(h.bor j v _ hjg hb).1, rfl⟩
  · refine ⟨hg.os.trans h.keep.os, hg.tape.trans h.keep.tape, hg.output.trans h.keep.output, Nat.le_trans h.keep.size hg.size, fun k hk hkn => (hg.block k (Nat.lt_of_lt_of_le hk h.keep.size) fun e => ?_).trans (h.keep.block k hk hkn)⟩
    rcases h.fresh b _ k hb rfl ((hob k).2 e.symm) with h4 | h4
    · omega
    · exact hkn h4

theorem heap_sortK {enc : α → List Value} {k g n : Nat} {os : Array Obj} {cur : Array Value} {e : TypeId} {fr : Nat × Nat} (d : Array α) (hb : w.heap[g]? = some (.cells cur e fr)) : (sortWorldK enc k w g 0 n d os).heap[g]? = some (.cells (putCells id 0 (flatK enc k d) cur) e fr) := by
  have hg : g < w.heap.size := (Array.getElem?_eq_some_iff.1 hb).1
  unfold sortWorldK putRowK
  rw [heap_grow_old _ _ (by simpa using hg)]
  simp [putRow, mapBlock, Sort.ahead, Array.getElem?_modify, hb, onCells]
theorem grownBy_sortK {enc : α → List Value} {k g n : Nat} {os : Array Obj} (d : Array α) : w.grownBy (sortWorldK enc k w g 0 n d os) (some g) := by
  unfold sortWorldK putRowK
  refine ⟨rfl, rfl, rfl, by simp, fun k hk hne => ?_⟩
  rw [heap_grow_old _ _ (by simpa using hk)]
  have : g ≠ k := fun e => hne (by rw [e])
  simp [putRow, mapBlock, Sort.ahead, Array.getElem?_modify, this]

theorem flat_at {g : α → List TV} {sz : Nat} (hrow : ∀ x, (g x).length = sz) {l : List α} {i j : Nat} {r : List TV} {x : TV} (hi : (l.map g)[i]? = some r) (hj : r[j]? = some x) : (flatK (encS g) sz l.toArray)[i * sz + j]! = x.val0 ∧ i * sz + j < l.length * sz := by
  rw [List.getElem?_map, Option.map_eq_some_iff] at hi
  obtain ⟨z, h1, rfl⟩ := hi
  have hil := (List.getElem?_eq_some_iff.1 h1).1
  have hjl : j < sz := by rw [← hrow z]; exact (List.getElem?_eq_some_iff.1 hj).1
  have hlt : i * sz + j < l.length * sz := by have := Nat.mul_le_mul_right sz (Nat.succ_le_of_lt hil); rw [Nat.succ_mul] at this; omega
  refine ⟨?_, hlt⟩
  rw [get_flatK _ _ _ _ (by simpa using hlt)]
  have e1 : (i * sz + j) / sz = i := by rw [Nat.mul_comm, Nat.mul_add_div (by omega), Nat.div_eq_of_lt hjl]; rfl
  have e2 : (i * sz + j) % sz = j := by rw [Nat.mul_comm, Nat.mul_add_mod, Nat.mod_eq_of_lt hjl]
  rw [e1, e2]
  have e3 : l.toArray[i]! = z := by simp [h1]
  rw [e3]
  unfold encS
  simp [hj]

/-- The call of a function that sorts. -/
theorem OStep.sort {f cf : FuncId} {x z : Operand} {Ts : Array TypeId} {b : Nat} {e : TypeId} {g : α → List TV} {sz : Nat} {srt : List α → List α} {l : List α} (ho : o.op = .call { callee := .value (.func f), args := #[x, z], argTypes := Ts }) (hs : SortC P f (.func (.func cf) #[] #[]) g sz srt)
    (hx : ev x = .w (.c (.mref b))) (hz : ev z = .w (.c (.clo cf []))) (hl : l.length < 4611686018427387904) : OStep P o ev ⟨[(b, .sl e sz false (l.map g))], [], [(b, some (.sl e sz false ((srt l).map g)))], .tup []⟩ := by
  intro C w η F sl hp N a K Q hR hev hnd hnew hd hK
  obtain ⟨fn, h1, h2, h3⟩ := hs.fn
  have hb : hp b = some (.sl e sz false (l.map g)) := hnd (b, .sl e sz false (l.map g)) (by simp)
  have ex := hR.mrefv ((hev x (by simp [ho, Op.operands, Call.operands])).trans hx) hb
  have ez : a.eval z = .func (.func cf) #[] #[] := by
    have h := hR.eval z
    rw [hev z (by simp [ho, Op.operands, Call.operands]), hz] at h
    obtain ⟨us, h4, h5, _⟩ := h
    cases us with
    | nil => exact h4
    | cons u us => simp at h5
  unfold Oper.wp
  rw [callExec (args := [x, z]) ho h1 h2 h3]
  show Calls P f ([x, z].map a.eval).toArray w _
  simp only [List.map_cons, List.map_nil, ex, ez]
  obtain ⟨cells, hown, hsz, htr⟩ := hR.heap.blocks b _ hb
  have fin : ∀ w', w.grownBy w' (η b).ownBlock → ((∀ g, F g → w'.heap[g]? = w.heap[g]?) → BRep w' F η (hpSet hp b (some (.sl e sz false ((srt l).map g)))) b (.sl e sz false ((srt l).map g))) → K (a.put o.dst (.tuple #[])) w' := fun w' hg hbr => by
    obtain ⟨q1, q2, q3⟩ := turnSl hR.heap hb hg hbr
    have hR' : Reps C w' η F sl (hpSet hp b (some (.sl e sz false ((srt l).map g)))) N a := ⟨hR.size, hR.defers, fun t => hR.heap.slot (hR.slots t) (fun _ h => h) q2 (fun c => .inr (q3 c)), q1⟩
    exact hK (.tuple #[]) w' η F (hR'.put (r := .tup []) ⟨[], rfl, rfl, by simp⟩ hd)
  have hll : (l.map g).length = l.length := List.length_map ..
  rcases hown.2 with ⟨hnil, hn0⟩ | ⟨gb, cap, cur, hv, hbase, hg, hnc, hcm, hcs, htake⟩
  · rw [hnil]
    refine (hs.none w).mono fun e w' hpost => ?_
    obtain ⟨rfl, rfl⟩ := hpost
    have hl0 : l = [] := List.eq_nil_of_length_eq_zero (by omega)
    subst hl0
    have hs0 : srt [] = [] := List.eq_nil_of_length_eq_zero (hs.len [])
    refine fin w' ⟨rfl, rfl, rfl, Nat.le_refl _, fun _ _ _ => rfl⟩ fun _ => ?_
    rw [hs0]
    exact ⟨cells, hown, hsz, htr⟩
  · rw [hv, hll]
    have hat : ∀ j, j < l.length * sz → cur[j]? = some ((flatK (encS g) sz l.toArray)[j]!) := fun j hj => by
      have hi : j / sz < l.length := Nat.div_lt_of_lt_mul (by rw [Nat.mul_comm]; exact hj)
      have hm : j % sz < sz := Nat.mod_lt _ hs.pos
      have e0 : j / sz * sz + j % sz = j := by rw [Nat.mul_comm]; exact Nat.div_add_mod j sz
      have hr : (l.map g)[j / sz]? = some (g l[j / sz]) := by rw [List.getElem?_map, List.getElem?_eq_getElem hi]; rfl
      have hm' : j % sz < (g l[j / sz]).length := by rw [hs.row]; exact hm
      have hx' : (g l[j / sz])[j % sz]? = some (g l[j / sz])[j % sz] := List.getElem?_eq_getElem hm'
      obtain ⟨u, h4, h5⟩ := htr _ _ _ _ hr hx'
      have h6 := (flat_at hs.row hr hx').1
      rw [e0] at h4 h6
      have h7 := h5.sc_val (List.all_eq_true.1 (hs.sc l[j / sz]) _ (List.getElem_mem hm'))
      rw [h6, ← h7, ← h4, ← htake, List.getElem?_take_of_lt (by rw [hll]; exact hj), Array.getElem?_toList]
    have hH : HoldsK (encS g) sz w gb 0 l.toArray := fun j hj => by
      rw [size_flatK] at hj
      refine ⟨?_, by simp [World.frozen?, hg]⟩
      simp only [World.cell?, hg, Nat.zero_add, Option.isSome_none, Bool.false_eq_true, if_false, id]
      exact hat j (by simpa using hj)
    refine (hs.call w gb cap l hH (Array.getElem?_eq_some_iff.1 hg).1 hl).mono fun e' w' hpost => ?_
    obtain ⟨rfl, n, os, rfl⟩ := hpost
    refine fin _ (by rw [hv]; exact grownBy_sortK _) fun hFc => ?_
    have hsl : (srt l).length = l.length := hs.len l
    have hcs' : l.length * sz ≤ cur.size := by rw [hcs]; exact Nat.mul_le_mul_right _ (by rw [hll] at hnc; exact hnc)
    refine ⟨(flatK (encS g) sz (srt l).toArray).toList, ⟨by simp, .inr ⟨gb, cap, _, by rw [hv]; simp [hsl], hbase, heap_sortK _ hg, by rw [List.length_map, hsl, ← hll]; exact hnc, hcm, by simp [putCells, hcs], ?_⟩⟩, fun r hr => ?_, fun i j r x hi hj => ?_⟩
    · rw [List.length_map, hsl]
      apply List.ext_getElem?
      intro j
      by_cases hj : j < l.length * sz
      · rw [List.getElem?_take_of_lt hj, Array.getElem?_toList, Array.getElem?_toList]
        have h8 : j < (flatK (encS g) sz (srt l).toArray).size := by simpa [hsl] using hj
        rw [Array.getElem?_eq_getElem h8]
        simp only [putCells, Array.getElem?_mapIdx, Nat.zero_le, true_and, Nat.zero_add, Nat.sub_zero, id]
        rw [Array.getElem?_eq_getElem (show j < cur.size by omega)]
        simp only [Option.map_some, if_pos h8]
        rw [getElem!_pos _ j h8]
      · rw [List.getElem?_take_eq_none (by omega), List.getElem?_eq_none (by simp [hsl]; omega)]
    · obtain ⟨z, _, rfl⟩ := List.mem_map.1 hr
      exact hs.row z
    · obtain ⟨h4, h5⟩ := flat_at hs.row hi hj
      have h8 : i * sz + j < (flatK (encS g) sz (srt l).toArray).size := by simpa using h5
      refine ⟨x.val0, ?_, ?_⟩
      · rw [Array.getElem?_toList, Array.getElem?_eq_getElem h8, ← h4, getElem!_pos (flatK (encS g) sz (srt l).toArray) _ h8]
      · refine Tr.of_sc ?_
        rw [List.getElem?_map, Option.map_eq_some_iff] at hi
        obtain ⟨z, _, rfl⟩ := hi
        exact List.all_eq_true.1 (hs.sc z) _ (List.mem_of_getElem? hj)
end
#print axioms OStep.sort
/-! The rule of the walk. -/
section
variable {N k : Nat} {β : Type} {q : β → Po} {all r : List Oper} {s : St} {τ : List (Option Eff)} {d : Option Tmp} {ty : TypeId} {pos : String} {aft : Array Edge} {m : M β}
theorem X.sort {α : Type} [Inhabited α] {g : α → List TV} {sz : Nat} {srt : List α → List α} {f cf : FuncId} (hs : SortC Try.prog f (.func (.func cf) #[] #[]) g sz srt) {x z : Operand} {Ts : Array TypeId} {b : Nat} {e : TypeId} {l : List α}
    (h : l.length < 4611686018427387904 → TS N k all q r (s.eff d ⟨[(b, .sl e sz false (l.map g))], [], [(b, some (.sl e sz false ((srt l).map g)))], .tup []⟩) (some ⟨[(b, .sl e sz false (l.map g))], [], [(b, some (.sl e sz false ((srt l).map g)))], .tup []⟩ :: τ) m)
    (hx : s.ev x = .w (.c (.mref b)) := by exact rfl) (hb : lookH s.heap b = some (.sl e sz false (l.map g)) := by exact rfl) (hz : s.ev z = .w (.c (.clo cf [])) := by exact rfl) (hd : dstB N d = true := by exact rfl) :
    TS N k all q (⟨d, .call { callee := .value (.func f), args := #[x, z], argTypes := Ts }, ty, pos, aft, none⟩ :: r) s τ (M.chk (l.length < 4611686018427387904) m) :=
  X.chk fun hl => X.op (OStep.sort (o := ⟨d, .call { callee := .value (.func f), args := #[x, z], argTypes := Ts }, ty, pos, aft, none⟩) rfl hs hx hz hl) ⟨hb, trivial⟩ rfl hd (h hl)
end
end Go.Proofs.Ythlpmklgokjdkaa
