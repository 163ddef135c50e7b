/- Maps: entries that are written in two steps, maps as results, ranges over maps. -/
import Derived.Test.YteifdlklpdjkkaaDoorQue
import Derived.Maps.RangeRun
set_option linter.unusedVariables false
set_option linter.unusedSectionVars false
set_option linter.unusedSimpArgs false
set_option maxRecDepth 20000
namespace Go.Proofs.YteifdlklpdjkkaaDoor
open Go.RowKit Go.MapKept Go.ChangeMaps Q
section
variable {P : Program} {w : World} {t kt vt : TypeId} {κ α : Type} [DecidableEq κ] {ek : κ → Value} {f : α → Value} {l : List (κ × α)} {n : κ} {a d : α} {r : Nat}
theorem idxM_ent (l : List (κ × α)) (n : κ) (d : α) : idxM l n < (entM l n d).length := by
  by_cases h : idxM l n < l.length
  · rw [entM_some h]; exact h
  · rw [entM_none h]
    have := idxM_le l n
    simp; omega
theorem run_mapEntry {z : Value} (ht : P.underlying t = some (.map kt vt)) (hk : KeyK P kt ek) (hz : (zeroValue vt).run P w = .ok z w) (hzd : z = f d) (hb : w.heap[r]? = some (.map (mkEs (encM ek f l)) l.length)) :
    (Instr.mapEntry t (.map (some r)) (ek n)).run P w = .ok (.tuple #[f (getM l n d), .int .i64 (idxM l n)]) (setBlock w r (.map (mkEs (encM ek f (entM l n d))) (entM l n d).length)) := by
  have hf := hk.find f l n w
  by_cases h : idxM l n < l.length
  · obtain ⟨x, h1, h2⟩ := idxM_at h
    rw [if_pos h, h1] at hf
    have hge : (mkEs (encM ek f l))[idxM l n]? = some ⟨ek n, f x, idxM l n⟩ := by
      rw [mkEs_get]; unfold encM; rw [List.getElem?_map, h1]; rfl
    have hst : (Instr.keyThatStays (ek n) (ek n)).run P w = .ok (ek n) w := by
      unfold Instr.keyThatStays; rw [if_pos (hk.same n)]; rfl
    have e : (mkEs (encM ek f l)).modify (idxM l n) (fun e => { e with key := ek n }) = mkEs (encM ek f l) := by
      rw [mkEs_modify _ _ _ (fun p => (ek n, p.2)) (fun _ => rfl)]
      congr 1
      refine List.ext_getElem? fun j => ?_
      rw [List.getElem?_modify]
      by_cases hj : idxM l n = j
      · subst hj
        unfold encM
        rw [List.getElem?_map, h1]; simp
      · simp [hj]
    have hf' : (Instr.findKey kt (ek n) (mkEs (encM ek f l)).toList).run P w = .ok (some (idxM l n, f x)) w := hf
    rw [h2, entM_some h]
    simp [Instr.mapEntry, run_underlying ht, MapKept.run_getObj_map hb, hk.chk, hf', hge, hst, e, MapKept.run_setObj_map _ hb, Result.andThen, setBlock, goInt]
  · rw [if_neg h] at hf
    have hf' : (Instr.findKey kt (ek n) (mkEs (encM ek f l)).toList).run P w = .ok none w := hf
    have e : (mkEs (encM ek f l)).push ⟨ek n, f d, l.length⟩ = mkEs (encM ek f (entM l n d)) := by
      have := mkEs_push (encM ek f l) (ek n) (f d)
      rw [encM_length] at this
      rw [this, entM_none h]
      unfold encM
      rw [List.map_append]; rfl
    have e2 : (entM l n d).length = l.length + 1 := by rw [entM_none h]; simp
    have e3 : idxM l n = l.length := by have := idxM_le l n; omega
    rw [getM_none h, e2, ← e, e3]
    simp [Instr.mapEntry, run_underlying ht, MapKept.run_getObj_map hb, hk.chk, hf', hz, hzd, MapKept.run_setObj_map _ hb, Result.andThen, setBlock, goInt]
theorem run_entryStore {l' : List (κ × α)} {i : Nat} (hi : i < l'.length) (hb : w.heap[r]? = some (.map (mkEs (encM ek f l')) l'.length)) :
    (Instr.entryStore t (.map (some r)) (.int .i64 i) (f a)).run P w = .ok () (setBlock w r (.map (mkEs (encM ek f (storM l' i a))) (storM l' i a).length)) := by
  have hfi : (mkEs (encM ek f l')).findIdx? (fun e => ((e.born : Int) == (i : Int))) = some i := by
    have hil : i < (mkEs (encM ek f l')).size := by unfold mkEs; simp [esFrom_length, encM_length]; exact hi
    rw [Array.findIdx?_eq_some_iff_getElem]
    refine ⟨hil, ?_, fun j hj => ?_⟩
    · have := mkEs_get (encM ek f l') i
      rw [Array.getElem?_eq_getElem hil] at this
      cases hq : (encM ek f l')[i]? with
      | none => rw [hq] at this; cases this
      | some p =>
        rw [hq] at this
        injection this with this
        rw [this]; simp
    · have hjl : j < (mkEs (encM ek f l')).size := by omega
      have := mkEs_get (encM ek f l') j
      rw [Array.getElem?_eq_getElem hjl] at this
      cases hq : (encM ek f l')[j]? with
      | none => rw [hq] at this; cases this
      | some p =>
        rw [hq] at this
        injection this with this
        rw [this]; simp; omega
  have e : (mkEs (encM ek f l')).modify i (fun e => { e with val := f a }) = mkEs (encM ek f (storM l' i a)) := by
    rw [mkEs_modify _ _ _ (fun p => (p.1, f a)) (fun _ => rfl), encM_modify l' _ (fun p => (p.1, a)) _ (fun _ => rfl), storM_modify]
  have e2 : (storM l' i a).length = l'.length := by rw [storM_modify, List.length_modify]
  rw [e2, ← e]
  have hfi' : (mkEs (encM ek f l')).findIdx? (fun e => decide (e.born = i)) = some i := by
    rw [← hfi]; congr 1; funext e; rw [Bool.eq_iff_iff]; simp; omega
  simp [Instr.entryStore, MapKept.run_getObj_map hb, asInt, asIntOf, hfi, hfi', MapKept.run_setObj_map _ hb, Result.andThen, setBlock]
end
section
variable {P : Program} {o : Oper} {ev : Operand → SV} {t kt vt : TypeId} {κ α : Type} [DecidableEq κ] {ek : κ → Value} {f : α → Value} {l : List (κ × α)} {n : κ} {a d : α}
theorem zero_run {w : World} (hz : (P.info? vt).bind (·.zero) = some (f d)) : (zeroValue vt).run P w = .ok (f d) w := by
  rw [Option.bind_eq_some_iff] at hz
  obtain ⟨i, h3, h4⟩ := hz
  simp [zeroValue, typeInfo, h3, h4]
theorem OStep.lookM {m x : Operand} {b : Nat} (ho : o.op = .lookup t m x false) (ht : P.underlying t = some (.map kt vt)) (hk : KeyK P kt ek) (hz : (P.info? vt).bind (·.zero) = some (f d)) (hm : ev m = .w (.c (.mref b))) (hx : DetS (ev x) (ek n)) {T : α → TV} (hT : ∀ (w : World) (F : Nat → Prop) (a : α), Tr w F (T a) (f a)) :
    OStep P o ev ⟨[(b, .gh (mapΦ (encM ek f l)))], [], [], .w (.c (.v (T (getM l n d))))⟩ :=
  .pure fun C w η F sl hp N a' hR hev hnd => by
    have hb : hp b = some (.gh (mapΦ (encM ek f l))) := hnd (b, _) (by simp)
    have e1 := hR.eval m
    rw [hev m (by simp [ho, Op.operands]), hm] at e1
    simp only [SRep, WRep, CRep, hb] at e1
    have e2 := hx _ _ _ _ _ (hev x (by simp [ho, Op.operands]) ▸ hR.eval x)
    obtain ⟨_, h1, ⟨r, h2, h3⟩, _⟩ := hR.heap.blocks b _ hb
    rw [encM_length] at h3
    have e4 : a'.eval m = .map (some r) := by rw [e1, h2]; rfl
    refine ⟨f (getM l n d), ?_, hT _ _ _⟩
    unfold execOp; rw [ho]
    simp only [e4, e2, Sem.run_bind, run_lookup (n := n) ht hk (zero_run hz) rfl h3, Result.andThen_ok]
    rfl
theorem OStep.mapEnt {m x : Operand} {b : Nat} (ho : o.op = .mapEntry t m x) (ht : P.underlying t = some (.map kt vt)) (hk : KeyK P kt ek) (hz : (P.info? vt).bind (·.zero) = some (f d)) (hm : ev m = .w (.c (.mref b))) (hx : DetS (ev x) (ek n)) {T : α → TV} (hT : ∀ (w : World) (F : Nat → Prop) (a : α), Tr w F (T a) (f a)) :
    OStep P o ev ⟨[(b, .gh (mapΦ (encM ek f l)))], [], [(b, some (.gh (mapΦ (encM ek f (entM l n d)))))], .tup [.c (.v (T (getM l n d))), .c (.v (.int .i64 (Q.idxM l n)))]⟩ :=
  .heap fun C w η F sl hp N a' hR hev hnd hnew => by
    have hb : hp b = some (.gh (mapΦ (encM ek f l))) := hnd (b, _) (by simp)
    have e1 := hR.eval m
    rw [hev m (by simp [ho, Op.operands]), hm] at e1
    simp only [SRep, WRep, CRep, hb] at e1
    have e2 := hx _ _ _ _ _ (hev x (by simp [ho, Op.operands]) ▸ hR.eval x)
    obtain ⟨_, h1, ⟨r, h2, h3⟩, _⟩ := hR.heap.blocks b _ hb
    rw [encM_length] at h3
    have e4 : a'.eval m = .map (some r) := by rw [e1, h2]; rfl
    have hrun := run_mapEntry (n := n) ht hk (zero_run (w := w) hz) rfl h3
    have hsame := heap_setBlock_same h3 (.map (mkEs (encM ek f (entM l n d))) (entM l n d).length)
    have hoth : ∀ {g : Nat}, g ≠ r → (setBlock w r (.map (mkEs (encM ek f (entM l n d))) (entM l n d).length)).heap[g]? = w.heap[g]? := fun hg => heap_setBlock_other h3 _ hg
    obtain ⟨q1, q2, q3⟩ := hR.heap.gturn (w' := setBlock w r (.map (mkEs (encM ek f (entM l n d))) (entM l n d).length)) (v' := η b) (Φ' := mapΦ (encM ek f (entM l n d))) hb
      (fun g _ hg => hoth fun e => hg (by rw [h2, e])) (by simp [setBlock]) rfl rfl rfl (fun g hg => .inl hg) rfl
      (mapΦ_rep (by rw [ηSet_same]; exact h2) (by rw [encM_length]; exact hsame))
    refine ⟨_, _, _, F, .inl ?_, q1, fun _ h => h, q2, fun c => .inr (q3 c), ⟨[f (getM l n d), .int .i64 (Q.idxM l n)], rfl, rfl, fun i x y hx hy => ?_⟩⟩
    · unfold execOp; rw [ho]
      simp only [e4, e2, Sem.run_bind, hrun, Result.andThen_ok]
      rfl
    · match i with
      | 0 => cases hx; cases hy; exact hT _ _ _
      | 1 => cases hx; cases hy; exact Tr.int _ _
      | i + 2 => simp at hx
theorem OStep.entSt {m x v : Operand} {b : Nat} (ho : o.op = .entryStore t m x v) (hm : ev m = .w (.c (.mref b))) (hx : ev x = iS .i64 (Q.idxM l n)) (hv : DetS (ev v) (f a)) :
    OStep P o ev ⟨[(b, .gh (mapΦ (encM ek f (entM l n d))))], [], [(b, some (.gh (mapΦ (encM ek f (putM l n a)))))], SV.any⟩ :=
  .heap fun C w η F sl hp N a' hR hev hnd hnew => by
    have hb : hp b = some (.gh (mapΦ (encM ek f (entM l n d)))) := hnd (b, _) (by simp)
    have e1 := hR.eval m
    rw [hev m (by simp [ho, Op.operands]), hm] at e1
    simp only [SRep, WRep, CRep, hb] at e1
    have e2 := hR.int ((hev x (by simp [ho, Op.operands])).trans hx)
    have e3 := hv _ _ _ _ _ (hev v (by simp [ho, Op.operands]) ▸ hR.eval v)
    obtain ⟨_, h1, ⟨r, h2, h3⟩, _⟩ := hR.heap.blocks b _ hb
    rw [encM_length] at h3
    have e4 : a'.eval m = .map (some r) := by rw [e1, h2]; rfl
    have hrun := run_entryStore (P := P) (t := t) (a := a) (idxM_ent l n d) h3
    rw [storM_entM] at hrun
    have hsame := heap_setBlock_same h3 (.map (mkEs (encM ek f (putM l n a))) (putM l n a).length)
    have hoth : ∀ {g : Nat}, g ≠ r → (setBlock w r (.map (mkEs (encM ek f (putM l n a))) (putM l n a).length)).heap[g]? = w.heap[g]? := fun hg => heap_setBlock_other h3 _ hg
    obtain ⟨q1, q2, q3⟩ := hR.heap.gturn (w' := setBlock w r (.map (mkEs (encM ek f (putM l n a))) (putM l n a).length)) (v' := η b) (Φ' := mapΦ (encM ek f (putM l n a))) hb
      (fun g _ hg => hoth fun e => hg (by rw [h2, e])) (by simp [setBlock]) rfl rfl rfl (fun g hg => .inl hg) rfl
      (mapΦ_rep (by rw [ηSet_same]; exact h2) (by rw [encM_length]; exact hsame))
    refine ⟨undef, _, _, F, .inr ⟨?_, rfl⟩, q1, fun _ h => h, q2, fun c => .inr (q3 c), SRep.any _ _ _ _ _⟩
    unfold execOp; rw [ho]
    simp only [e4, e2, e3, Sem.run_bind, hrun, Result.andThen_ok]
    rfl
/-! ### Ranges -/
def itΦ (L : List (Value × Value)) (seen : List Nat) : World → Value → Prop := fun w v => ∃ q r : Nat, v = .tuple #[.pointer (some ⟨q, 0, none⟩), .slice (some ⟨q, 0, none⟩) 0 0, .slice (some ⟨r, 0, none⟩) 0 0] ∧ q ≠ r ∧
  w.heap[q]? = some (.mapIter (some r) L.length seen.toArray L.length) ∧ w.heap[r]? = some (.map (mkEs L) L.length)
theorem own_it {q r g : Nat} : Own (.tuple #[.pointer (some ⟨q, 0, none⟩), .slice (some ⟨q, 0, none⟩) 0 0, .slice (some ⟨r, 0, none⟩) 0 0]) g ↔ g = q ∨ g = r := by
  constructor
  · rintro ⟨v, hv, hg⟩
    simp at hv
    rcases hv with rfl | rfl | rfl
    · cases hg
    · exact .inl (Option.some.inj hg).symm
    · exact .inr (Option.some.inj hg).symm
  · rintro (rfl | rfl)
    · exact ⟨.slice (some ⟨g, 0, none⟩) 0 0, by simp, rfl⟩
    · exact ⟨.slice (some ⟨g, 0, none⟩) 0 0, by simp, rfl⟩
theorem it_rep {w : World} {F : Nat → Prop} {η : Nat → Value} {hp : Hp} {b : Nat} {L : List (Value × Value)} {seen : List Nat} (h : itΦ L seen w (η b)) : BRep w F η hp b (.gh (itΦ L seen)) := by
  have h0 := h
  obtain ⟨q, r, h1, h2, h3, h4⟩ := h
  refine ⟨by rw [h1]; rfl, fun g hg => ?_, h0, fun w' hw => ⟨q, r, h1, h2, ?_, ?_⟩⟩
  · rw [h1] at hg
    rcases own_it.1 hg with rfl | rfl
    · exact (Array.getElem?_eq_some_iff.1 h3).1
    · exact (Array.getElem?_eq_some_iff.1 h4).1
  · rw [hw q (by rw [h1]; exact own_it.2 (.inl rfl))]; exact h3
  · rw [hw r (by rw [h1]; exact own_it.2 (.inr rfl))]; exact h4
theorem OStep.range {x : Operand} {L : List (Value × Value)} {b nb : Nat} (ho : o.op = .range t x) (ht : P.underlying t = some (.map kt vt)) (hx : ev x = .w (.c (.mref b))) :
    OStep P o ev ⟨[(b, .gh (mapΦ L))], [nb], [(b, none), (nb, some (.gh (itΦ L [])))], .w (.c (.mref nb))⟩ :=
  .heap fun C w η F sl hp N a' hR hev hnd hnew => by
    obtain ⟨hn, hu, hus, hbs⟩ := hnew nb (by simp)
    have hb : hp b = some (.gh (mapΦ L)) := hnd (b, _) (by simp)
    have e1 := hR.eval x
    rw [hev x (by simp [ho, Op.operands]), hx] at e1
    simp only [SRep, WRep, CRep, hb] at e1
    obtain ⟨_, h1, ⟨r, h2, h3⟩, _⟩ := hR.heap.blocks b _ hb
    have e4 : a'.eval x = .map (some r) := by rw [e1, h2]; rfl
    have hr : r < w.heap.size := (Array.getElem?_eq_some_iff.1 h3).1
    have hrun : (Instr.range t (.map (some r))).run P w = .ok (.pointer (some ⟨w.heap.size, 0, none⟩)) (w.alloc (.mapIter (some r) L.length #[] L.length)) := run_range_map w t kt vt r _ _ ht h3
    have hold : ∀ g, g < w.heap.size → (w.alloc (.mapIter (some r) L.length #[] L.length)).heap[g]? = w.heap[g]? := fun g hg => heap_alloc_old w _ hg
    have hΦ : itΦ L [] (w.alloc (.mapIter (some r) L.length #[] L.length)) (.tuple #[.pointer (some ⟨w.heap.size, 0, none⟩), .slice (some ⟨w.heap.size, 0, none⟩) 0 0, .slice (some ⟨r, 0, none⟩) 0 0]) :=
      ⟨w.heap.size, r, rfl, by omega, heap_alloc_new w _, by rw [hold r hr]; exact h3⟩
    obtain ⟨s1, s2, s3⟩ := hR.heap.gmove (w' := w.alloc (.mapIter (some r) L.length #[] L.length)) (Φ' := itΦ L []) (v' := .tuple #[.pointer (some ⟨w.heap.size, 0, none⟩), .slice (some ⟨w.heap.size, 0, none⟩) 0 0, .slice (some ⟨r, 0, none⟩) 0 0]) hb rfl hn hu hbs (fun g hg _ => hold g hg) (by simp) rfl rfl rfl
      (fun g hg => by
        rcases own_it.1 hg with rfl | rfl
        · exact .inr (Nat.le_refl _)
        · exact .inl (by rw [h2])) (it_rep (by rw [ηSet_same]; exact hΦ))
    refine ⟨.pointer (some ⟨w.heap.size, 0, none⟩), _, _, F, .inl ?_, s1, fun _ h => h, s2, fun c' => (s3 c').imp (fun h => by subst h; exact hus) id, ?_⟩
    · unfold execOp; rw [ho]
      simp only [e4, Sem.run_bind, hrun, Result.andThen_ok]
      rfl
    · simp only [SRep, WRep, CRep, hpUpd, hpSet_same, ηSet_same, hdV]; rfl
theorem mkEs_mem {L : List (Value × Value)} {e : MapEntry} (h : e ∈ (mkEs L).toList) : ∃ p, L[e.born]? = some p ∧ e = ⟨p.1, p.2, e.born⟩ := by
  obtain ⟨i, hi⟩ := List.getElem?_of_mem h
  rw [Array.getElem?_toList, mkEs_get, Option.map_eq_some_iff] at hi
  obtain ⟨p, h1, rfl⟩ := hi
  exact ⟨p, h1, rfl⟩
theorem mkEs_nodup (L : List (Value × Value)) : ((mkEs L).toList.map (·.born)).Nodup := by
  have : (mkEs L).toList.map (·.born) = List.range L.length := by
    refine List.ext_getElem? fun i => ?_
    rw [List.getElem?_map, Array.getElem?_toList, mkEs_get]
    by_cases hi : i < L.length
    · rw [List.getElem?_eq_getElem hi, List.getElem?_range hi]; rfl
    · rw [List.getElem?_eq_none (by omega), List.getElem?_eq_none (by simpa using Nat.le_of_not_lt hi)]; rfl
  rw [this]; exact List.nodup_range
theorem OStep.entry {x : Operand} {b i : Nat} {seen : List Nat} {KW : κ → WV} {T : α → TV} {p : κ × α} (ho : o.op = .entry x) (hx : ev x = .w (.c (.mref b))) (hi : l[i]? = some p) (hK : ∀ (w : World) (F : Nat → Prop) (η : Nat → Value) (hp : Hp) (x : κ), WRep w F η hp (KW x) (ek x)) (hT : ∀ (w : World) (F : Nat → Prop) (a : α), Tr w F (T a) (f a)) :
    OStep P o ev ⟨[(b, .gh (itΦ (encM ek f l) (seen ++ [i])))], [], [], .tup [KW p.1, .c (.v (T p.2))]⟩ :=
  .pure fun C w η F sl hp N a' hR hev hnd => by
    have hb : hp b = some (.gh (itΦ (encM ek f l) (seen ++ [i]))) := hnd (b, _) (by simp)
    have e1 := hR.eval x
    rw [hev x (by simp [ho, Op.operands]), hx] at e1
    simp only [SRep, WRep, CRep, hb] at e1
    obtain ⟨_, _, ⟨q, r, h2, hqr, h3, h4⟩, _⟩ := hR.heap.blocks b _ hb
    have e4 : a'.eval x = .pointer (some ⟨q, 0, none⟩) := by rw [e1, h2]; rfl
    have hge : (mkEs (encM ek f l))[i]? = some ⟨ek p.1, f p.2, i⟩ := by
      rw [mkEs_get]; unfold encM; rw [List.getElem?_map, hi]; rfl
    have h3' : w.heap[q]? = some (.mapIter (some r) (encM ek f l).length (seen.toArray.push (⟨ek p.1, f p.2, i⟩ : MapEntry).born) (encM ek f l).length) := by rw [h3]; simp
    have hrun := Go.run_entry_at (P := P) w q r _ seen.toArray _ _ ⟨ek p.1, f p.2, i⟩ h3' h4 (by rw [← Array.getElem?_toList] at hge; exact List.mem_of_getElem? hge) (mkEs_nodup _)
    refine ⟨.tuple #[ek p.1, f p.2], ?_, ⟨[ek p.1, f p.2], rfl, rfl, fun j y u hy hu => ?_⟩⟩
    · unfold execOp; rw [ho]
      simp only [e4, Sem.run_bind, hrun, Result.andThen_ok]
      rfl
    · match j with
      | 0 => cases hy; cases hu; exact hK _ _ _ _ _
      | 1 => cases hy; cases hu; exact hT _ _ _
      | j + 2 => simp at hy
end
section
variable {N k : Nat} {s : St}
theorem VW.nextTest {P : Program} {Q : Exit → St → Prop} {id d1 d2 b : Nat} {ty1 ty2 : TypeId} {pos1 pos2 : String} {aft1 aft2 : Array Edge} {x : Operand} {L : List (Value × Value)} {seen : List Nat} (hx : s.ev x = .w (.c (.mref b))) (hb : lookH s.heap b = some (.gh (itΦ L seen))) (hd1 : dstB N (some d1) = true) (hd2 : dstB N (some d2) = true)
    (h1 : (∀ i, i < L.length → i ∈ seen) → Q .normal ((s.put (some d1) SV.any).put (some d2) (bS false))) (h2 : ∀ i, i < L.length → i ∉ seen → Q .normal ((s.eff (some d1) ⟨[(b, .gh (itΦ L seen))], [], [(b, some (.gh (itΦ L (seen ++ [i]))))], SV.any⟩).put (some d2) (bS true))) :
    VW P N k (.region id #[⟨some d1, .next x false, ty1, pos1, aft1, none⟩, ⟨some d2, .extract (.tmp d1) 0, ty2, pos2, aft2, none⟩] false) Q s := by
  intro C w a hk hr
  refine wp_region_lit (l := [⟨some d1, .next x false, ty1, pos1, aft1, none⟩, ⟨some d2, .extract (.tmp d1) 0, ty2, pos2, aft2, none⟩]) ?_
  refine wpList_step fun K' hK' => ?_
  rw [if_pos (by simp [Region.wanted])]
  obtain ⟨η, F, hR⟩ := hr
  have hb' : s.hp b = some (.gh (itΦ L seen)) := hb
  have e1 : SRep w F η s.hp (s.ev x) (a.eval x) := by rw [← St.ev_eq]; exact hR.eval x
  rw [hx] at e1
  simp only [SRep, WRep, CRep, hb'] at e1
  obtain ⟨_, _, ⟨q, r, g2, hqr, g3, g4⟩, _⟩ := hR.heap.blocks b _ hb'
  have e4 : a.eval x = .pointer (some ⟨q, 0, none⟩) := by rw [e1, g2]; rfl
  have hlt1 : ∀ t, some d1 = some t → t < N := fun t ht => by injection ht with ht; subst ht; simpa [dstB, Nat.blt_eq] using hd1
  have hlt2 : ∀ t, some d2 = some t → t < N := fun t ht => by injection ht with ht; subst ht; simpa [dstB, Nat.blt_eq] using hd2
  have hold : ∀ x ∈ (mkEs L).toList, x.born < L.length := fun x hx => by
    obtain ⟨p, h, _⟩ := mkEs_mem hx
    exact (List.getElem?_eq_some_iff.1 h).1
  have ext : ∀ (b1 : Bool) (vs : List Value) (a1 : Act) (w1 : World), a1.eval (.tmp d1) = .tuple (.bool b1 :: vs).toArray → (execOp a1.eval ⟨some d2, .extract (.tmp d1) 0, ty2, pos2, aft2, none⟩).run P w1 = .ok (.value (.bool b1)) w1 := fun b1 vs a1 w1 he => by
    unfold execOp
    simp [he, Instr.extract]
  have hd1' : d1 < a.tmps.size := by rw [hR.size]; exact hlt1 d1 rfl
  have hev1 : ∀ v, (a.put (some d1) v).eval (.tmp d1) = v := fun v => by
    show (a.tmps.setIfInBounds d1 v).getD d1 undef = v
    rw [Array.getD_eq_getD_getElem?, Array.getElem?_setIfInBounds, if_pos rfl, if_pos hd1']; rfl
  rcases Go.run_next_at (P := P) w ty1 q r L.length L.length seen.toArray (mkEs L) L.length g3 g4 hold (Nat.le_refl _) with ⟨hl, hrun⟩ | ⟨e, he, w1, hw1, hrun⟩
  · have hall : ∀ i, i < L.length → i ∈ seen := fun i hi => by
      by_cases hin : i ∈ seen
      · exact hin
      · exfalso
        have hm : (⟨(L[i]).1, (L[i]).2, i⟩ : MapEntry) ∈ (Go.leftOf (mkEs L) seen.toArray).toList := by
          unfold Go.leftOf
          have h5 := mkEs_get L i
          rw [List.getElem?_eq_getElem hi, ← Array.getElem?_toList] at h5
          have h6 := List.mem_of_getElem? h5
          simp only [Array.toList_filter, List.mem_filter]
          exact ⟨h6, by simp [hin]⟩
        have : (Go.leftOf (mkEs L) seen.toArray).toList.length = 0 := by rw [Array.length_toList]; exact hl
        rw [List.length_eq_zero_iff.1 this] at hm
        cases hm
    have hex : (execOp a.eval ⟨some d1, .next x false, ty1, pos1, aft1, none⟩).run P w = .ok (.value (.tuple #[.bool false])) w := by
      unfold execOp
      simp only [e4, Sem.run_bind, hrun, Result.andThen_ok]
      rfl
    unfold Oper.wp
    rw [hex]
    refine hK' _ _ ?_
    refine wpList_step fun K2 hK2 => ?_
    rw [if_pos (by simp [Region.wanted])]
    unfold Oper.wp
    rw [ext false [] _ _ (hev1 _)]
    refine hK2 _ _ (wpList_nil ⟨_, h1 hall, η, F, ?_⟩)
    have q1 := hR.put (d := some d1) (r := SV.any) (u := .tuple #[.bool false]) (SRep.any _ _ _ _ _) hlt1
    have q2 := q1.put (d := some d2) (r := bS false) (u := .bool false) (Tr.bool false) hlt2
    rw [St.put_sl, St.put_sl]
    exact q2
  · have he' := he
    unfold Go.leftOf at he'
    simp only [Array.toList_filter, List.mem_filter] at he'
    obtain ⟨p, h5, h6⟩ := mkEs_mem he'.1
    have hi : e.born < L.length := (List.getElem?_eq_some_iff.1 h5).1
    have hns : e.born ∉ seen := by simpa using he'.2
    have hR1 : Reps C w1 η F s.sl s.hp N a := by
      rcases hw1 with rfl | rfl
      · exact hR
      · exact hR.drew
    have g3' : w1.heap[q]? = some (.mapIter (some r) L.length seen.toArray L.length) := by rcases hw1 with rfl | rfl <;> exact g3
    have g4' : w1.heap[r]? = some (.map (mkEs L) L.length) := by rcases hw1 with rfl | rfl <;> exact g4
    have hql : q < w1.heap.size := (Array.getElem?_eq_some_iff.1 g3').1
    have hheap : (setBlock w1 q (.mapIter (some r) L.length (seen.toArray.push e.born) L.length)).heap = w1.heap.setIfInBounds q (.mapIter (some r) L.length (seen.toArray.push e.born) L.length) := rfl
    have hoth : ∀ g, g ≠ q → (setBlock w1 q (.mapIter (some r) L.length (seen.toArray.push e.born) L.length)).heap[g]? = w1.heap[g]? := fun g hg => by
      rw [hheap, Array.getElem?_setIfInBounds, if_neg (Ne.symm hg)]
    have hΦ : itΦ L (seen ++ [e.born]) (setBlock w1 q (.mapIter (some r) L.length (seen.toArray.push e.born) L.length)) (η b) :=
      ⟨q, r, g2, hqr, by rw [hheap, Array.getElem?_setIfInBounds, if_pos rfl, if_pos hql]; simp, by rw [hoth r (Ne.symm hqr)]; exact g4'⟩
    obtain ⟨s1, s2, s3⟩ := hR1.heap.gturn (w' := setBlock w1 q (.mapIter (some r) L.length (seen.toArray.push e.born) L.length)) (v' := η b) (Φ' := itΦ L (seen ++ [e.born])) hb'
      (fun g _ hg => hoth g fun h => hg (by rw [g2, h]; exact own_it.2 (.inl rfl))) (by rw [hheap]; simp) rfl rfl rfl (fun g hg => .inl hg) rfl (it_rep (by rw [ηSet_same]; exact hΦ))
    have hex : (execOp a.eval ⟨some d1, .next x false, ty1, pos1, aft1, none⟩).run P w = .ok (.value (.tuple #[.bool true, e.key, e.val])) (setBlock w1 q (.mapIter (some r) L.length (seen.toArray.push e.born) L.length)) := by
      unfold execOp
      simp only [e4, Sem.run_bind, hrun, Result.andThen_ok]
      rfl
    unfold Oper.wp
    rw [hex]
    refine hK' _ _ ?_
    refine wpList_step fun K2 hK2 => ?_
    rw [if_pos (by simp [Region.wanted])]
    unfold Oper.wp
    rw [ext true [e.key, e.val] _ _ (hev1 _)]
    refine hK2 _ _ (wpList_nil ⟨_, h2 e.born hi hns, ηSet η b (η b), F, ?_⟩)
    have hR2 : Reps C (setBlock w1 q (.mapIter (some r) L.length (seen.toArray.push e.born) L.length)) (ηSet η b (η b)) F s.sl (hpSet s.hp b (some (.gh (itΦ L (seen ++ [e.born]))))) N a :=
      ⟨hR1.size, hR1.defers, fun t => hR1.heap.slot (hR1.slots t) (fun _ h => h) s2 fun c => .inr (s3 c), s1⟩
    have q1 := hR2.put (d := some d1) (r := SV.any) (u := .tuple #[.bool true, e.key, e.val]) (SRep.any _ _ _ _ _) hlt1
    have q2 := q1.put (d := some d2) (r := bS true) (u := .bool true) (Tr.bool true) hlt2
    rw [St.put_sl, St.eff_sl]
    have : ((s.eff (some d1) ⟨[(b, .gh (itΦ L seen))], [], [(b, some (.gh (itΦ L (seen ++ [e.born]))))], SV.any⟩).put (some d2) (bS true)).hp = hpSet s.hp b (some (.gh (itΦ L (seen ++ [e.born])))) := by
      show (s.eff (some d1) ⟨[(b, .gh (itΦ L seen))], [], [(b, some (.gh (itΦ L (seen ++ [e.born]))))], SV.any⟩).hp = _
      rw [St.eff_hp]; rfl
    rw [this]
    exact q2
end
section
variable {N k : Nat} {s : St}
theorem VS.nextTest {β : Type} {q : β → Po} {m1 : M β} {m2 : Nat → M β} {κ α : Type} {ek : κ → Value} {f : α → Value} {l : List (κ × α)} {seen : List Nat} {id d1 d2 b : Nat} {ty1 ty2 : TypeId} {pos1 pos2 : String} {aft1 aft2 : Array Edge} {x : Operand}
    (h1 : (∀ i, i < l.length → i ∈ seen) → ES q .normal ((s.put (some d1) SV.any).put (some d2) (bS false)) m1) (h2 : ∀ i, i < l.length ∧ i ∉ seen → ES q .normal ((s.eff (some d1) ⟨[(b, .gh (itΦ (encM ek f l) seen))], [], [(b, some (.gh (itΦ (encM ek f l) (seen ++ [i]))))], SV.any⟩).put (some d2) (bS true)) (m2 i))
    (hx : s.ev x = .w (.c (.mref b)) := by exact rfl) (hb : lookH s.heap b = some (.gh (itΦ (encM ek f l) seen)) := by exact rfl) (hd1 : dstB N (some d1) = true := by exact rfl) (hd2 : dstB N (some d2) = true := by exact rfl) :
    VS N k (.region id #[⟨some d1, .next x false, ty1, pos1, aft1, none⟩, ⟨some d2, .extract (.tmp d1) 0, ty2, pos2, aft2, none⟩] false) q s (M.nxt l.length seen m1 m2) := by
  refine ⟨fun r hr => ⟨?_⟩⟩
  obtain ⟨ha, hb'⟩ := M.nxt_iff.1 hr
  refine VW.nextTest hx hb hd1 hd2 (fun he => ((h1 fun i hi => he i (by rw [encM_length]; exact hi)).out r (ha fun i hi => he i (by rw [encM_length]; exact hi))).out) (fun i hi hs => ?_)
  rw [encM_length] at hi
  exact ((h2 i ⟨hi, hs⟩).out r (hb' i hi hs)).out
end
section
variable {N k : Nat} {β : Type} {q : β → Po} {all r : List Oper} {s : St} {τ : List (Option Eff)} {d : Option Tmp} {ty : TypeId} {pos : String} {aft : Array Edge} {m : M β} {T kt vt : TypeId} {κ α : Type} [DecidableEq κ] {ek : κ → Value} {f : α → Value}
theorem X.mpM (b : Nat) (l : List (κ × α)) (n : κ) (d0 : α) (TT : α → TV) {x y : Operand} (hk : KeyK Tryd.prog kt ek) (ht : Tryd.prog.underlying T = some (.map kt vt)) (hz : (Tryd.prog.info? vt).bind (·.zero) = some (f d0)) (hT : ∀ (w : World) (F : Nat → Prop) (a : α), Tr w F (TT a) (f a)) (hy : DetS (s.ev y) (ek n))
    (h : TS N k all q r (s.put d (.w (.c (.v (TT (getM l n d0)))))) (some ⟨[(b, .gh (mapΦ (encM ek f l)))], [], [], .w (.c (.v (TT (getM l n d0))))⟩ :: τ) m)
    (hx : s.ev x = .w (.c (.mref b)) := by exact rfl) (hb : lookH s.heap b = some (.gh (mapΦ (encM ek f l))) := by exact rfl) (hd : dstB N d = true := by exact rfl) :
    TS N k all q (⟨d, .lookup T x y false, ty, pos, aft, none⟩ :: r) s τ m :=
  X.op (OStep.lookM (o := ⟨d, .lookup T x y false, ty, pos, aft, none⟩) rfl ht hk hz hx hy hT) ⟨hb, trivial⟩ rfl hd h
theorem X.mpE (b : Nat) (l : List (κ × α)) (n : κ) (d0 : α) (TT : α → TV) {x y : Operand} (hk : KeyK Tryd.prog kt ek) (ht : Tryd.prog.underlying T = some (.map kt vt)) (hz : (Tryd.prog.info? vt).bind (·.zero) = some (f d0)) (hT : ∀ (w : World) (F : Nat → Prop) (a : α), Tr w F (TT a) (f a)) (hy : DetS (s.ev y) (ek n))
    (h : TS N k all q r (s.eff d ⟨[(b, .gh (mapΦ (encM ek f l)))], [], [(b, some (.gh (mapΦ (encM ek f (entM l n d0)))))], .tup [.c (.v (TT (getM l n d0))), .c (.v (.int .i64 (Q.idxM l n)))]⟩) (some ⟨[(b, .gh (mapΦ (encM ek f l)))], [], [(b, some (.gh (mapΦ (encM ek f (entM l n d0)))))], .tup [.c (.v (TT (getM l n d0))), .c (.v (.int .i64 (Q.idxM l n)))]⟩ :: τ) m)
    (hx : s.ev x = .w (.c (.mref b)) := by exact rfl) (hb : lookH s.heap b = some (.gh (mapΦ (encM ek f l))) := by exact rfl) (hd : dstB N d = true := by exact rfl) :
    TS N k all q (⟨d, .mapEntry T x y, ty, pos, aft, none⟩ :: r) s τ m :=
  X.op (OStep.mapEnt (o := ⟨d, .mapEntry T x y, ty, pos, aft, none⟩) rfl ht hk hz hx hy hT) ⟨hb, trivial⟩ rfl hd h
theorem X.mpS (b : Nat) (l : List (κ × α)) (n : κ) (d0 a : α) {x y z : Operand} (hz : DetS (s.ev z) (f a))
    (h : TS N k all q r (s.eff d ⟨[(b, .gh (mapΦ (encM ek f (entM l n d0))))], [], [(b, some (.gh (mapΦ (encM ek f (putM l n a)))))], SV.any⟩) (some ⟨[(b, .gh (mapΦ (encM ek f (entM l n d0))))], [], [(b, some (.gh (mapΦ (encM ek f (putM l n a)))))], SV.any⟩ :: τ) m)
    (hx : s.ev x = .w (.c (.mref b)) := by exact rfl) (hb : lookH s.heap b = some (.gh (mapΦ (encM ek f (entM l n d0)))) := by exact rfl) (hy : s.ev y = iS .i64 (Q.idxM l n) := by exact rfl) (hd : dstB N d = true := by exact rfl) :
    TS N k all q (⟨d, .entryStore T x y z, ty, pos, aft, none⟩ :: r) s τ m :=
  X.op (OStep.entSt (o := ⟨d, .entryStore T x y z, ty, pos, aft, none⟩) rfl hx hy hz) ⟨hb, trivial⟩ rfl hd h
theorem X.rng (b nb : Nat) {L : List (Value × Value)} {x : Operand} (ht : Tryd.prog.underlying T = some (.map kt vt))
    (h : TS N k all q r (s.eff d ⟨[(b, .gh (mapΦ L))], [nb], [(b, none), (nb, some (.gh (itΦ L [])))], .w (.c (.mref nb))⟩) (some ⟨[(b, .gh (mapΦ L))], [nb], [(b, none), (nb, some (.gh (itΦ L [])))], .w (.c (.mref nb))⟩ :: τ) m)
    (hx : s.ev x = .w (.c (.mref b)) := by exact rfl) (hb : lookH s.heap b = some (.gh (mapΦ L)) := by exact rfl) (hw : s.freshB k nb = true := by exact rfl) (hd : dstB N d = true := by exact rfl) :
    TS N k all q (⟨d, .range T x, ty, pos, aft, none⟩ :: r) s τ m :=
  X.op (OStep.range (o := ⟨d, .range T x, ty, pos, aft, none⟩) rfl ht hx) ⟨hb, trivial⟩ (by simpa using hw) hd h
theorem X.ent (b i : Nat) [Inhabited (κ × α)] (l : List (κ × α)) (KW : κ → WV) (TT : α → TV) {seen : List Nat} {x : Operand} (hi : i < l.length ∧ i ∉ seen) (hK : ∀ (w : World) (F : Nat → Prop) (η : Nat → Value) (hp : Hp) (x : κ), WRep w F η hp (KW x) (ek x)) (hT : ∀ (w : World) (F : Nat → Prop) (a : α), Tr w F (TT a) (f a))
    (h : TS N k all q r (s.put d (.tup [KW (atD l (i : Int)).1, .c (.v (TT (atD l (i : Int)).2))])) (some ⟨[(b, .gh (itΦ (encM ek f l) (seen ++ [i])))], [], [], .tup [KW (atD l (i : Int)).1, .c (.v (TT (atD l (i : Int)).2))]⟩ :: τ) m)
    (hx : s.ev x = .w (.c (.mref b)) := by exact rfl) (hb : lookH s.heap b = some (.gh (itΦ (encM ek f l) (seen ++ [i]))) := by exact rfl) (hd : dstB N d = true := by exact rfl) :
    TS N k all q (⟨d, .entry x, ty, pos, aft, none⟩ :: r) s τ m :=
  X.op (OStep.entry (o := ⟨d, .entry x, ty, pos, aft, none⟩) rfl hx (by rw [List.getElem?_eq_getElem hi.1, atD_nat hi.1]) hK hT) ⟨hb, trivial⟩ rfl hd h
end
section
variable {N k : Nat} {β : Type} {q : β → Po} {s : St} {m : M β} {all r : List Oper} {τ : List (Option Eff)} {d : Option Tmp} {ty : TypeId} {pos : String} {aft : Array Edge}
/-- A call that yields a map of one's own. -/
theorem X.callG (nb : Nat) (S : List (Nat × Blk)) {γ : Type} {m1 : M γ} {kk : γ → M β} {Φ : γ → World → Value → Prop} {f : FuncId} {args : List Operand} {Ts : Array TypeId} {aa0 aa : List WV} {rv : γ → SV} (hf : ∀ a, m1 a → FCalls Tryd.prog f [] aa (rv a) [.gh (Φ a)] []) (h : ∀ a, TS N k all q r (s.eff d ⟨lendNeed S [] [], [nb], callUpd true S [] [] [nb] [.gh (Φ a)], (rv a).ren (callRen [] [nb])⟩) (some ⟨lendNeed S [] [], [nb], callUpd true S [] [] [nb] [.gh (Φ a)], (rv a).ren (callRen [] [nb])⟩ :: τ) (kk a)) (ha : argsW S [] s.ev args = some aa0 := by exact rfl) (haa : aa0.map tzW = aa := by exact rfl) (hn : s.needOk (lendNeed S [] []) := by exact trivial) (hS : S.all (fun p => p.2.isSl) = true := by exact rfl) (hnd : nodupB ([] ++ [nb] ++ S.map (·.1)) = true := by exact rfl) (hr : ∀ a, (rv a).below (0 + 1) = true := by exact fun _ => rfl) (hw : s.freshB k nb = true := by exact rfl) (hd : dstB N d = true := by exact rfl) : TS N k all q (⟨d, .call { callee := .value (.func f), args := args.toArray, argTypes := Ts }, ty, pos, aft, none⟩ :: r) s τ (M.call m1 kk) := by
  refine ⟨fun v hv => ?_⟩
  obtain ⟨a, h1, h2⟩ := M.call_iff.1 hv
  subst haa
  exact G.call true S [] [nb] (FCalls.tz (hf a h1)) ha rfl hS (nodupB_ok hnd) rfl (by intro kb hkb; simp only [List.mem_singleton] at hkb; subst hkb; exact True.intro) (hr a) (by simp) hn (by simpa using hw) hd ((h a).out v h2)
theorem Ret.cloG {rs : List ResultVar} {rv : SV} {B' : List (TypeId × List TV)} (b : Nat) (l : List WV) {Φ : World → Value → Prop} (h : ResOk Tryd.prog s rs l) (hB : HeapIs s 0 B') (hb : lookH s.heap b = some (.gh Φ) := by exact rfl) (hkb : Nat.ble k b = true := by exact rfl) (hr : resSV l = rv.ren (expRen k [b]) := by exact rfl) (hbl : rv.below (k + 1) = true := by exact rfl) : Ret N k rs rv [.gh Φ] B' s := by
  refine ⟨s, .refl s, l, [b], h, hr, ⟨hb, True.intro, trivial⟩, ?_, hB, hbl⟩
  have := Nat.le_of_ble_eq_true hkb
  refine List.nodup_append.2 ⟨List.nodup_range, by simp, ?_⟩
  intro a ha c hc
  have := List.mem_range.1 ha
  simp at hc
  omega
end
/-! ### m[k] += x: the entry may be made ahead of the look -/
theorem getM_entM {κ α : Type} [DecidableEq κ] (l : List (κ × α)) (n : κ) (d : α) : getM (entM l n d) n d = getM l n d := by
  induction l with
  | nil => simp [entM, getM]
  | cons p r ih =>
    unfold entM
    by_cases h : p.1 = n
    · rw [if_pos h]
    · rw [if_neg h]; simp [getM, h, ih]
theorem itsOf_at {all : List Oper} : ∀ {l : List Oper} {τ : List (Option Eff)} {i : Nat} {o : Oper} {e : Option Eff}, l[i]? = some o → τ[i]? = some e → (itsOf all l τ)[i]? = some (itOf all o e)
  | [], _, _, _, _, h, _ => by simp at h
  | _ :: _, [], _, _, _, _, h => by simp at h
  | o :: r, e :: τ, 0, _, _, h, h' => by cases h; cases h'; rfl
  | o :: r, e :: τ, i + 1, _, _, h, h' => by
    simp only [List.getElem?_cons_succ] at h h'
    show (itOf all o e :: itsOf all r τ)[i + 1]? = _
    rw [List.getElem?_cons_succ]
    exact itsOf_at h h'
theorem soft_look {lo : List Oper} {τ : List (Option Eff)} {s' : St} {iL iE : Nat} {d : Option Tmp} {T kt vt : TypeId} {ty : TypeId} {pos : String} {aft : Array Edge} {x y : Operand} {κ α : Type} [DecidableEq κ] {ek : κ → Value} {f : α → Value} {oE : Oper} {ρE : Eff}
    (b : Nat) (l : List (κ × α)) (n : κ) (d0 : α) (TT : α → TV) (hk : KeyK Tryd.prog kt ek) (ht : Tryd.prog.underlying T = some (.map kt vt)) (hz : (Tryd.prog.info? vt).bind (·.zero) = some (f d0)) (hT : ∀ (w : World) (F : Nat → Prop) (a : α), Tr w F (TT a) (f a))
    (h1 : lo[iL]? = some ⟨d, .lookup T x y false, ty, pos, aft, none⟩) (h2 : τ[iL]? = some (some ⟨[(b, .gh (mapΦ (encM ek f l)))], [], [], .w (.c (.v (TT (getM l n d0))))⟩)) (h0 : lo[iE]? = some oE) (h3 : τ[iE]? = some (some ρE)) (h4 : ρE.upd = [(b, some (.gh (mapΦ (encM ek f (entM l n d0)))))]) (hx : s'.ev x = .w (.c (.mref b))) (hy : DetS (s'.ev y) (ek n)) (hlt : Nat.blt iL iE = true) (hnd : ((itsOf lo lo τ).drop iL).all (fun z => !hasDst (rdOp [x, y]) z.dst) = true) :
    SoftOk Tryd.prog lo (itsOf lo lo τ) s' iL iE := by
  refine ⟨_, _, _, b, _, _, blt_lt hlt, h1, itsOf_at h1 h2, itsOf_at h0 h3, rfl, rfl, rfl, h4, ?_, fun m z hm hz t ht => ?_⟩
  · have := OStep.lookM (P := Tryd.prog) (o := ⟨d, .lookup T x y false, ty, pos, aft, none⟩) (ev := s'.ev) (l := entM l n d0) (n := n) (d := d0) rfl ht hk hz hx hy (T := TT) hT
    rw [getM_entM] at this
    exact this
  · have hz' : z ∈ (itsOf lo lo τ).drop iL := List.mem_of_getElem? (i := m - iL) (by rw [List.getElem?_drop, show iL + (m - iL) = m by omega]; exact hz)
    have := List.all_eq_true.1 hnd z hz'
    simp only [Bool.not_eq_true'] at this
    exact hasDst_ok this t ht
theorem X.nilDS (iL iE : Nat) {N k : Nat} {β : Type} {q : β → Po} {s : St} {m : M β} {all : List Oper} {τ : List (Option Eff)} {lo : List Oper} {s0 : St} (h : ES q .normal s m) (hd : drawS iL iE lo s0 k τ.reverse = true) (hs : SoftOk Tryd.prog lo (itsOf lo lo τ.reverse) s iL iE) : TS N k all (fun r => .drw lo s0 (q r)) [] s τ m := ⟨fun v hv => ⟨⟨.inr ⟨iL, iE, hd, hs⟩, (h.out v hv).out⟩⟩⟩
end Go.Proofs.YteifdlklpdjkkaaDoor
