/- A call by contract as one operation. -/
import Derived.Test.YtjfkdjlmajfljaaDoorCallB
namespace Go.Proofs.YtjfkdjlmajfljaaDoor
open Go.RowKit

def AV.below (n : Nat) : AV → Bool
  | .mref b => decide (b < n)
  | .ptr b _ _ => decide (b < n)
  | _ => true
def WV.below (n : Nat) : WV → Bool
  | .c a => a.below n
  | .agg l => l.all (AV.below n)
def SV.below (n : Nat) : SV → Bool
  | .w x => x.below n
  | .tup l => l.all (WV.below n)
theorem AV.lt_of_below {n j : Nat} {x : AV} (h : x.below n = true) (hj : x.ment j = true) : j < n := by
  cases x <;> simp_all [AV.below, AV.ment]
theorem WV.lt_of_below {n j : Nat} {x : WV} (h : x.below n = true) (hj : x.ment j = true) : j < n := by
  cases x with
  | c a => exact AV.lt_of_below h hj
  | agg l =>
    obtain ⟨y, h1, h2⟩ := List.any_eq_true.1 hj
    exact AV.lt_of_below (List.all_eq_true.1 h y h1) h2
theorem SV.lt_of_below {n j : Nat} {x : SV} (h : x.below n = true) (hj : x.ment j = true) : j < n := by
  cases x with
  | w x => exact WV.lt_of_below h hj
  | tup l =>
    obtain ⟨y, h1, h2⟩ := List.any_eq_true.1 hj
    exact WV.lt_of_below (List.all_eq_true.1 h y h1) h2

def AV.sc : AV → Prop
  | .v t => t.sc
  | .tptr .. => False
  | _ => True
def WV.sc : WV → Prop
  | .c a => a.sc
  | .agg l => ∀ x ∈ l, x.sc
def SV.sc : SV → Prop
  | .w x => x.sc
  | .tup l => ∀ x ∈ l, x.sc

section
variable {P : Program} {C : Ctx} {w w' : World} {η η' : Nat → Value} {F F' : Nat → Prop} {sl : Sl} {hp hp' : Hp} {N : Nat} {a : Act} {o : Oper} {ev : Operand → SV} {t : TypeId} {y : Ty}

theorem CRep.sc {x : AV} {u : Value} (h : CRep w F η hp x u) (hs : x.sc) : CRep w F' η hp x u := by
  cases x with
  | v t => exact Tr.sc h hs
  | tptr => exact hs.elim
  | mref b => exact h
  | ptr b i o => exact h
  | one => exact h
  | any => trivial
theorem WRep.sc {x : WV} {u : Value} (h : WRep w F η hp x u) (hs : x.sc) : WRep w F' η hp x u := by
  cases x with
  | c a => exact CRep.sc h hs
  | agg l =>
    obtain ⟨us, h1, h2, h3, h4⟩ := h
    exact ⟨us, h1, h2, h3, fun i x z hx hz => CRep.sc (h4 i x z hx hz) (hs x (List.mem_of_getElem? hx))⟩
theorem SRep.sc {x : SV} {u : Value} (h : SRep w F η hp x u) (hs : x.sc) : SRep w F' η hp x u := by
  cases x with
  | w x => exact WRep.sc h hs
  | tup l =>
    obtain ⟨us, h1, h2, h3⟩ := h
    exact ⟨us, h1, h2, fun i x z hx hz => WRep.sc (h3 i x z hx hz) (hs x (List.mem_of_getElem? hx))⟩

def lendNeed (S : List (Nat × Blk)) (L : List Nat) (B : List (TypeId × List TV)) : List (Nat × Blk) := ((L.zip B).map fun p => (p.1, .bx p.2.1 (p.2.2.map .v))) ++ S
def Blk.isSl : Blk → Bool
  | .sl .. => true
  | _ => false
theorem Blk.isSl_eq {k : Blk} (h : k.isSl = true) : ∃ e sz f rows, k = .sl e sz f rows := by
  cases k with
  | sl e sz f rows => exact ⟨_, _, _, _, rfl⟩
  | bx => cases h

theorem callExec {f : FuncId} {args : List Operand} {Ts : Array TypeId} {fn : Func} (ho : o.op = .call { callee := .value (.func f), args := args.toArray, argTypes := Ts }) (hf : P.funcs[f]? = some fn) (hn : (fn.name == "runtime.NumGoroutine") = false) (hb : fn.body.isNone = false) :
    (execOp a.eval o).run P w = .ok (.enter f (args.map a.eval).toArray) w := by
  unfold execOp; rw [ho]
  have e : a.eval (.func f) = .func (.func f) #[] #[] := rfl
  have hn' : ¬ fn.name = "runtime.NumGoroutine" := by simpa using hn
  have hb' : ¬ fn.body = none := fun h => by rw [h] at hb; cases hb
  simp [resolve, Deferred.ofValue, e, invoke, callFunc, hf, hn', hb']

/-- A call by contract: the slices of one's own that are handed over (S) are frozen from then on, unless the result and all that comes back holds no slice. -/
theorem OStep.call (frz : Bool) {f : FuncId} {args : List Operand} {Ts : Array TypeId} {S : List (Nat × Blk)} {L : List Nat} {B B' : List (TypeId × List TV)} {aa : List WV} {r : SV} {E : List Blk} (Nw : List Nat)
    (ho : o.op = .call { callee := .value (.func f), args := args.toArray, argTypes := Ts }) (hf : FCalls P f B aa r E B') (ha : argsW S L ev args = some aa) (hl : L.length = B.length) (hS : S.all (fun p => p.2.isSl) = true) (hnd : (L ++ Nw ++ S.map (·.1)).Nodup) (hN : Nw.length = E.length) (hE : ∀ k ∈ E, k.exp) (hr : r.below (B.length + E.length) = true)
    (hsc : frz = false → (∀ x ∈ B', ∀ t ∈ x.2, t.sc) ∧ (∀ k ∈ E, k.sc) ∧ r.sc) :
    OStep P o ev ⟨lendNeed S L B, Nw, callUpd frz S L B' Nw E, r.ren (callRen L Nw)⟩ := by
  intro C w η F sl hp N a K Q hR hev hnd' hnew hd hK
  obtain ⟨⟨fn, h1, h2, h3⟩, hBl, hcall⟩ := hf
  have hL : Lend hp S L B := ⟨hl, (List.nodup_append.1 (List.nodup_append.1 hnd).1).1, fun j b x hb hx => hnd' (b, _) (List.mem_append_left _ (List.mem_map.2 ⟨(b, x), List.mem_of_getElem? (getElem?_zip_some hb hx), rfl⟩)),
    fun p hp' => ⟨hnd' p (List.mem_append_right _ hp'), Blk.isSl_eq (List.all_eq_true.1 hS p hp')⟩⟩
  obtain ⟨gs, hg1, hg2, hg3⟩ := hL.hrep hR.heap
  have hev' : ∀ x ∈ args, evalS sl x = ev x := fun x hx => hev x (by simp [ho, Op.operands, Call.operands, hx])
  obtain ⟨h4, h5⟩ := argsW_rep hR hL hev' ha
  unfold Oper.wp
  rw [callExec ho h1 h2 h3]
  show Calls P f (args.map a.eval).toArray w _
  refine (hcall w gs _ _ (args.map a.eval).toArray hg1 hg3 (by simpa using h4) (fun i x v hx hv => h5 i x v hx (by simpa using hv))).mono fun e w' hpost => ?_
  obtain ⟨v, η1, F1, rfl, h6, h7⟩ := hpost
  obtain ⟨h8, h9, h10, h11⟩ := after_core hR hL hg1 hg2 h6 hBl frz hnd hN hnew hE (fun hf => ⟨(hsc hf).1, (hsc hf).2.1⟩)
  have hR' : Reps C w' (fun b => if b ∈ Nw then η1 (B.length + Nw.idxOf b) else η b) (fun g => F g ∨ (frz = true ∧ (inS η S g ∨ F1 g))) sl (hpUpd hp (callUpd frz S L B' Nw E)) N a :=
    ⟨hR.size, hR.defers, fun t => hR.heap.slot (hR.slots t) (fun _ h => .inl h) h9 fun c => (h10 c).imp (fun h => h t) id, h8⟩
  refine hK v w' _ _ (hR'.put ?_ hd)
  cases frz with
  | true => exact h7.ren (fun g hg => .inr ⟨rfl, .inr hg⟩) fun j hj => h11 j (SV.lt_of_below hr hj)
  | false => exact (SRep.sc (F' := F) h7 (hsc rfl).2.2).ren (fun g hg => .inl hg) fun j hj => h11 j (SV.lt_of_below hr hj)
end
#print axioms OStep.call
end Go.Proofs.YtjfkdjlmajfljaaDoor
