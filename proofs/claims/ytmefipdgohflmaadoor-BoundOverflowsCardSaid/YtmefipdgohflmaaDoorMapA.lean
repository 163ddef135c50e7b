/- Maps of one's own that grow, and maps that do not change any more: operations on abstract values. -/
import Derived.Test.YtmefipdgohflmaaDoorMc
import Derived.Test.YtmefipdgohflmaaDoorMapP
import Derived.ChangeMaps5
import Derived.Carry
set_option linter.unusedVariables false
set_option linter.unusedSectionVars false
namespace Go.Proofs.YtmefipdgohflmaaDoor
open Go.RowKit Go.MapKept Go.ChangeMaps Q

/-! ### The entries -/
theorem esFrom_length : ∀ (l : List (Value × Value)) (j : Nat), (esFrom l j).length = l.length
  | [], _ => rfl
  | _ :: r, j => by simp [esFrom, esFrom_length r]
theorem esFrom_append : ∀ (l m : List (Value × Value)) (j : Nat), esFrom (l ++ m) j = esFrom l j ++ esFrom m (j + l.length)
  | [], m, j => by simp [esFrom]
  | p :: r, m, j => by simp [esFrom, esFrom_append r m, Nat.add_assoc, Nat.add_comm 1]
theorem esFrom_get : ∀ (l : List (Value × Value)) (j i : Nat), (esFrom l j)[i]? = (l[i]?).map fun p => ⟨p.1, p.2, j + i⟩
  | [], _, _ => by simp [esFrom]
  | p :: r, j, 0 => by simp [esFrom]
  | p :: r, j, i + 1 => by simp [esFrom, esFrom_get r, Nat.add_assoc, Nat.add_comm 1]
theorem mkEs_get (l : List (Value × Value)) (i : Nat) : (mkEs l)[i]? = (l[i]?).map fun p => ⟨p.1, p.2, i⟩ := by
  unfold mkEs
  rw [List.getElem?_toArray, esFrom_get, Nat.zero_add]
theorem mkEs_push (l : List (Value × Value)) (k v : Value) : (mkEs l).push ⟨k, v, l.length⟩ = mkEs (l ++ [(k, v)]) := by
  unfold mkEs
  rw [esFrom_append]
  simp [esFrom]
theorem mkEs_modify (l : List (Value × Value)) (i : Nat) (f : MapEntry → MapEntry) (g : Value × Value → Value × Value) (h : ∀ p : Value × Value, f ⟨p.1, p.2, i⟩ = ⟨(g p).1, (g p).2, i⟩) : (mkEs l).modify i f = mkEs (l.modify i g) := by
  apply Array.ext_getElem?
  intro j
  rw [Array.getElem?_modify, mkEs_get, mkEs_get, List.getElem?_modify]
  by_cases hij : i = j
  · subst hij
    rw [if_pos rfl]
    cases l[i]? with
    | none => rfl
    | some p => simp [h p]
  · rw [if_neg hij]
    cases l[j]? with
    | none => rfl
    | some p => simp [hij]
/-- A kind of keys: how they lie, and that they are found. -/
structure KeyK (P : Program) (kt : TypeId) {κ : Type} [DecidableEq κ] (ek : κ → Value) : Prop where
  chk : ∀ (e : Bool) (n : κ) (w : World), (Instr.checkKey e 10000 kt (ek n)).run P w = .ok () w
  same : ∀ n : κ, Instr.sameBits 10000 (ek n) (ek n) = true
  find : ∀ {α : Type} (f : α → Value) (l : List (κ × α)) (n : κ) (w : World), (Instr.findKey kt (ek n) (mkEs (l.map fun p => (ek p.1, f p.2))).toList).run P w = .ok (if idxM l n < l.length then (l[idxM l n]?).map fun p => (idxM l n, f p.2) else none) w
def encM {κ α : Type} (ek : κ → Value) (f : α → Value) (l : List (κ × α)) : List (Value × Value) := l.map fun p => (ek p.1, f p.2)
/-- A variable that holds a map. -/
def mR {κ α : Type} (ek : κ → Value) (f : α → Value) (l : List (κ × α)) : List TV := [.mp (encM ek f l)]
theorem encM_length {κ α : Type} (ek : κ → Value) (f : α → Value) (l : List (κ × α)) : (encM ek f l).length = l.length := by simp [encM]
section
variable {κ α : Type} [DecidableEq κ]
theorem idxM_le (l : List (κ × α)) (n : κ) : idxM l n ≤ l.length := by
  induction l with
  | nil => exact Nat.le_refl _
  | cons p r ih => unfold idxM; split <;> simp <;> omega
theorem idxM_at {l : List (κ × α)} {n : κ} (h : idxM l n < l.length) : ∃ a, l[idxM l n]? = some (n, a) ∧ ∀ d, getM l n d = a := by
  induction l with
  | nil => simp [idxM] at h
  | cons p r ih =>
    unfold idxM at h ⊢
    by_cases hp : p.1 = n
    · rw [if_pos hp]; exact ⟨p.2, by simp [← hp], fun d => by simp [getM, hp]⟩
    · rw [if_neg hp] at h ⊢
      obtain ⟨a, h1, h2⟩ := ih (by simpa using h)
      exact ⟨a, by simpa using h1, fun d => by simp [getM, hp, h2]⟩
theorem getM_none {l : List (κ × α)} {n : κ} (h : ¬ idxM l n < l.length) (d : α) : getM l n d = d := by
  induction l with
  | nil => rfl
  | cons p r ih =>
    unfold idxM at h
    by_cases hp : p.1 = n
    · rw [if_pos hp] at h; simp at h
    · rw [if_neg hp] at h; unfold getM; rw [if_neg hp]; exact ih (by simpa using h)
theorem putM_none {l : List (κ × α)} {n : κ} (h : ¬ idxM l n < l.length) (a : α) : putM l n a = l ++ [(n, a)] := by
  induction l with
  | nil => rfl
  | cons p r ih =>
    unfold idxM at h
    by_cases hp : p.1 = n
    · rw [if_pos hp] at h; simp at h
    · rw [if_neg hp] at h; unfold putM; rw [if_neg hp, ih (by simpa using h)]; rfl
theorem putM_some {l : List (κ × α)} {n : κ} (h : idxM l n < l.length) (a : α) : putM l n a = l.modify (idxM l n) fun _ => (n, a) := by
  induction l with
  | nil => simp [idxM] at h
  | cons p r ih =>
    unfold idxM at h ⊢
    unfold putM
    by_cases hp : p.1 = n
    · rw [if_pos hp, if_pos hp]; rfl
    · rw [if_neg hp] at h
      rw [if_neg hp, if_neg hp, ih (by simpa using h)]; rfl
theorem entM_none {l : List (κ × α)} {n : κ} (h : ¬ idxM l n < l.length) (a : α) : entM l n a = l ++ [(n, a)] := by
  induction l with
  | nil => rfl
  | cons p r ih =>
    unfold idxM at h
    by_cases hp : p.1 = n
    · rw [if_pos hp] at h; simp at h
    · rw [if_neg hp] at h; unfold entM; rw [if_neg hp, ih (by simpa using h)]; rfl
theorem entM_some {l : List (κ × α)} {n : κ} (h : idxM l n < l.length) (a : α) : entM l n a = l := by
  induction l with
  | nil => simp [idxM] at h
  | cons p r ih =>
    unfold idxM at h
    unfold entM
    by_cases hp : p.1 = n
    · rw [if_pos hp]
    · rw [if_neg hp] at h
      rw [if_neg hp, ih (by simpa using h)]
theorem storM_modify (l : List (κ × α)) (i : Nat) (a : α) : storM l i a = l.modify i fun p => (p.1, a) := by
  induction l generalizing i with
  | nil => cases i <;> rfl
  | cons p r ih => cases i with
    | zero => rfl
    | succ i => unfold storM; rw [ih]; rfl
theorem encM_modify {ek : κ → Value} {f : α → Value} (l : List (κ × α)) (i : Nat) (g : κ × α → κ × α) (g' : Value × Value → Value × Value) (h : ∀ p, (fun q : κ × α => (ek q.1, f q.2)) (g p) = g' (ek p.1, f p.2)) : (encM ek f l).modify i g' = encM ek f (l.modify i g) := by
  unfold encM
  induction l generalizing i with
  | nil => cases i <;> rfl
  | cons p r ih => cases i with
    | zero => simp [List.modify, ← h]
    | succ i => simp only [List.map_cons, List.modify_succ_cons, ih]
end
section
variable {P : Program} {w : World} {t kt vt : TypeId} {κ α : Type} [DecidableEq κ] {ek : κ → Value} {f : α → Value} {l : List (κ × α)} {n : κ} {a d : α} {r : Nat}
theorem run_mapUpdate (ht : P.underlying t = some (.map kt vt)) (hk : KeyK P kt ek) (hb : w.heap[r]? = some (.map (mkEs (encM ek f l)) l.length)) :
    (Instr.mapUpdate t (.map (some r)) (ek n) (f a)).run P w = .ok () (setBlock w r (.map (mkEs (encM ek f (putM l n a))) (putM l n a).length)) := by
  have hf := hk.find f l n w
  by_cases h : idxM l n < l.length
  · obtain ⟨x, h1, _⟩ := idxM_at h
    rw [if_pos h, h1] at hf
    have hge : ((mkEs (encM ek f l))[idxM l n]?).map (·.key) = some (ek n) := by
      rw [mkEs_get]; unfold encM; rw [List.getElem?_map, h1]; rfl
    have hst : (Instr.keyThatStays (ek n) (ek n)).run P w = .ok (ek n) w := by
      unfold Instr.keyThatStays; rw [if_pos (hk.same n)]; rfl
    have e : (mkEs (encM ek f l)).modify (idxM l n) (fun e => { e with key := ek n, val := f a }) = mkEs (encM ek f (putM l n a)) := by
      rw [mkEs_modify _ _ _ (fun _ => (ek n, f a)) (fun _ => rfl), encM_modify l _ (fun _ => (n, a)) _ (fun _ => rfl), putM_some h]
    have e2 : (putM l n a).length = l.length := by rw [putM_some h, List.length_modify]
    have hf' : (Instr.findKey kt (ek n) (mkEs (encM ek f l)).toList).run P w = .ok (some (idxM l n, f x)) w := hf
    rw [e2, ← e]
    simp [Instr.mapUpdate, run_underlying ht, MapKept.run_getObj_map hb, hk.chk, hf', hge, hst, MapKept.run_setObj_map _ hb, Result.andThen, setBlock]
  · rw [if_neg h] at hf
    have hf' : (Instr.findKey kt (ek n) (mkEs (encM ek f l)).toList).run P w = .ok none w := hf
    have e : (mkEs (encM ek f l)).push ⟨ek n, f a, l.length⟩ = mkEs (encM ek f (putM l n a)) := by
      have := mkEs_push (encM ek f l) (ek n) (f a)
      rw [encM_length] at this
      rw [this, putM_none h]
      unfold encM
      rw [List.map_append]; rfl
    have e2 : (putM l n a).length = l.length + 1 := by rw [putM_none h]; simp
    rw [e2, ← e]
    simp [Instr.mapUpdate, run_underlying ht, MapKept.run_getObj_map hb, hk.chk, hf', MapKept.run_setObj_map _ hb, Result.andThen, setBlock]
theorem run_lookup {z : Value} (ht : P.underlying t = some (.map kt vt)) (hk : KeyK P kt ek) (hz : (zeroValue vt).run P w = .ok z w) (hzd : z = f d) (hb : w.heap[r]? = some (.map (mkEs (encM ek f l)) l.length)) :
    (Instr.lookup t (.map (some r)) (ek n) false).run P w = .ok (f (getM l n d)) w := by
  have hf := hk.find f l n w
  by_cases h : idxM l n < l.length
  · obtain ⟨x, h1, h2⟩ := idxM_at h
    rw [if_pos h, h1] at hf
    have hf' : (Instr.findKey kt (ek n) (mkEs (encM ek f l)).toList).run P w = .ok (some (idxM l n, f x)) w := hf
    rw [h2]
    simp [Instr.lookup, run_underlying ht, MapKept.run_getObj_map hb, hk.chk, hf', Result.andThen]
  · rw [if_neg h] at hf
    have hf' : (Instr.findKey kt (ek n) (mkEs (encM ek f l)).toList).run P w = .ok none w := hf
    rw [getM_none h]
    simp [Instr.lookup, run_underlying ht, MapKept.run_getObj_map hb, hk.chk, hf', hz, hzd, Result.andThen]
end
/-! ### Integers as keys -/
theorem findNow_int {α : Type} (f : α → Value) (n : Int) : ∀ (l : List (Int × α)) (j : Nat), Instr.findNow (.int .i64) (.int .i64 n) (esFrom (l.map fun p => ((Value.int .i64 p.1 : Value), f p.2)) j) j = some (if idxM l n < l.length then (l[idxM l n]?).map fun p => (j + idxM l n, f p.2) else none)
  | [], j => by simp [esFrom, Instr.findNow, idxM]
  | p :: r, j => by
    simp only [List.map_cons, esFrom, Instr.findNow, Instr.sameNow, if_pos]
    unfold idxM
    by_cases hp : p.1 = n
    · rw [if_pos hp]
      simp [hp]
    · rw [if_neg hp]
      have : (n == p.1) = false := by simpa using fun e : n = p.1 => hp e.symm
      rw [this]
      dsimp only
      rw [findNow_int f n r (j + 1)]
      simp [Nat.add_assoc, Nat.add_comm 1]
theorem keyI {P : Program} {kt : TypeId} (h : P.underlying kt = some (.int .i64)) : KeyK P kt (Value.int .i64) where
  chk e n w := MapKept.run_checkKey h (by simp [MapKept.IsKey]) e 9999
  same n := by simp [Instr.sameBits]
  find f l n w := by
    have := findNow_int f n l 0
    simp only [Nat.zero_add] at this
    unfold Instr.findKey mkEs
    simp [run_underlying h, this]
#print axioms run_mapUpdate
end Go.Proofs.YtmefipdgohflmaaDoor
