/- An array's element at a place that is known case by case. -/
import Derived.Test.YtpjmpkgllnomaaaDoorMc
set_option linter.unusedVariables false
set_option maxRecDepth 20000
namespace Go.Proofs.YtpjmpkgllnomaaaDoor
open Go.RowKit Q
section
variable {P : Program} {C : Ctx} {w : World} {η : Nat → Value} {F : Nat → Prop} {sl : Sl} {hp : Hp} {N : Nat} {a : Act} {o : Oper} {ev : Operand → SV} {t : TypeId} {y : Ty}
theorem OStep.idxV {x z : Operand} {cells : List AV} {k : IntKind} {n m : Nat} {et : TypeId} {ye : Ty} {r : WV} (ho : o.op = .index t x z) (hx : ev x = .w (.agg cells)) (hz : ev z = iS k (n : Int)) (hy : TyFits P t y) (hs : y.shp = .array m et) (hye : TyFits P et ye) (hn : n < m) (hr : cut ye cells (n * ye.size) = some r) :
    OStep P o ev ⟨[], [], [], .w r⟩ :=
  .pure fun C w η F sl hp N a hR hev hnd => by
    have h1 := hR.eval x
    rw [hev x (by simp [ho, Op.operands]), hx] at h1
    obtain ⟨us, h2, hl, h4, h5⟩ := h1
    have h5' := hR.int ((hev z (by simp [ho, Op.operands])).trans hz)
    have hrun : ∀ v, (part et us.toArray (n * ye.size)).run P w = .ok v w → (execOp a.eval o).run P w = .ok (.value v) w := fun v hv => by
      unfold execOp; rw [ho]
      simp [Instr.index, asIntOf, h5', run_underlying (hy.array hs), hye.run_size, hn, h2, hv]
    unfold cut at hr
    split at hr
    · rename_i ha
      split at hr
      · rename_i hle
        injection hr with hr
        subst hr
        refine ⟨.agg (us.toArray.extract (n * ye.size) ((n * ye.size) + ye.size)), hrun _ (by unfold part; rw [Sem.run_bind, hye.run_isAgg, ha]; simp [hye.run_size]), (us.drop (n * ye.size)).take ye.size, ?_, ?_, ?_, ?_⟩
        · congr 1; apply Array.ext'; simp [List.extract_eq_take_drop]
        · rw [List.length_take, List.length_drop, List.length_take, List.length_drop, hl]
        · intro z hz; exact h4 z (List.mem_of_mem_drop (List.mem_of_mem_take hz))
        · intro i z v hz hv
          rw [List.getElem?_take] at hz hv
          split at hz
          · rw [if_pos (by assumption)] at hv
            rw [List.getElem?_drop] at hz hv
            exact h5 _ _ _ hz hv
          · cases hz
      · cases hr
    · rename_i ha
      rw [Option.map_eq_some_iff] at hr
      obtain ⟨z, h12, rfl⟩ := hr
      have hlt : (n * ye.size) < us.length := by rw [hl]; exact (List.getElem?_eq_some_iff.1 h12).1
      refine ⟨us[n * ye.size], hrun _ (by unfold part; rw [Sem.run_bind, hye.run_isAgg, Bool.eq_false_iff.2 ha]; simp [hlt]), h5 (n * ye.size) z _ h12 (List.getElem?_eq_getElem hlt)⟩

/-! ### New variables -/
end
section
variable {N k : Nat} {β γ : Type} {q : β → Po} {s : St} {all r : List Oper} {τ : List (Option Eff)} {m m1 m2 : M β} {d : Option Tmp} {ty : TypeId} {pos : String} {aft : Array Edge} {x y z : Operand} {T T' e : TypeId} {kd : IntKind} {yT ye : Ty}
theorem X.idxE (n : Nat) {i : Int} {cells : List AV} {qn : Nat} {et : TypeId} {v : WV} (hi : decide (i = (n : Int)) = true) (h : TS N k all q r (s.put d (.w v)) (some ⟨[], [], [], .w v⟩ :: τ) m) (hx : s.ev x = .w (.agg cells) := by exact rfl) (hz : s.ev z = iS kd i := by exact rfl) (hT : tys.get T = some yT := by exact rfl) (hs : yT.shp = .array qn et := by exact rfl) (he : tys.get et = some ye := by exact rfl) (hn : Nat.blt n qn = true := by exact rfl) (hr : cut ye cells (n * ye.size) = some v := by exact rfl) (hd : dstB N d = true := by exact rfl) : TS N k all q (⟨d, .index T x z, ty, pos, aft, none⟩ :: r) s τ m :=
  X.op (ρ := ⟨[], [], [], .w v⟩) (OStep.idxV (P := Tryd.prog) rfl hx (by rw [hz, of_decide_eq_true hi]) (fits hT) hs (fits he) (by simpa [Nat.blt_eq] using hn) hr) trivial rfl hd h
theorem X.idxAE (n : Nat) {i : Int} {b i0 off qn : Nat} {eb et : TypeId} {cells : List AV} (hi : decide (i = (n : Int)) = true) (h : TS N k all q r (s.put d (.w (.c (.ptr b i0 (off + n * ye.size))))) (some ⟨[(b, .bx eb cells)], [], [], .w (.c (.ptr b i0 (off + n * ye.size)))⟩ :: τ) m) (hx : s.ev x = .w (.c (.ptr b i0 off)) := by exact rfl) (hb : lookH s.heap b = some (.bx eb cells) := by exact rfl) (hz : s.ev z = iS kd i := by exact rfl) (hT : tys.get T = some yT := by exact rfl) (hs : yT.shp = .array qn et := by exact rfl) (he : tys.get et = some ye := by exact rfl) (hn : Nat.blt n qn = true := by exact rfl) (hd : dstB N d = true := by exact rfl) : TS N k all q (⟨d, .indexAddr T x z, ty, pos, aft, none⟩ :: r) s τ m :=
  X.up h fun _ hK => G.idxA hx (by rw [hz, of_decide_eq_true hi]) hb hT hs he (by simpa [Nat.blt_eq] using hn) hd hK
end
end Go.Proofs.YtpjmpkgllnomaaaDoor
