/- The machine: regions that draw their order. The text's order is walked; a check of the trace says that no order differs. -/
import Derived.Test.YtjfkdjlmajfljaaDoorVm
import Derived.Test.YtjfkdjlmajfljaaDoorRegion
namespace Go.Proofs.YtjfkdjlmajfljaaDoor
open Go.RowKit

/-! ### What an operation waits for, through others -/
inductive Anc (l : List Oper) : Nat → Nat → Prop
  | one (i x : Nat) (o : Oper) (ho : l[i]? = some o) (hw : waits o x = true) : Anc l i x
  | step (i y x : Nat) (o : Oper) (ho : l[i]? = some o) (hw : waits o y = true) (h : Anc l y x) : Anc l i x
def Closed (l : List Oper) (D : Nat → Prop) : Prop := ∀ i x o, D i → l[i]? = some o → waits o x = true → D x
theorem Anc.closed {l : List Oper} {D : Nat → Prop} (hc : Closed l D) {i x : Nat} (h : Anc l i x) : D i → D x := by
  induction h with
  | one i x o ho hw => exact fun hd => hc i x o hd ho hw
  | step i y x o ho hw _ ih => exact fun hd => ih (hc i y o hd ho hw)
theorem Anc.ready {l : List Oper} {D : Nat → Prop} (hc : Closed l D) {i x : Nat} (h : Anc l i x) (hr : ∀ o, l[i]? = some o → ∀ j, waits o j = true → D j) : D x := by
  cases h with
  | one i x o ho hw => exact hr o ho x hw
  | step i y x o ho hw h => exact h.closed hc (hr o ho y hw)

def memN (x : Nat) : List Nat → Bool
  | [] => false
  | y :: r => match Nat.beq x y with
    | true => true
    | false => memN x r
theorem memN_iff {x : Nat} : ∀ {l : List Nat}, memN x l = true ↔ x ∈ l
  | [] => by simp [memN]
  | y :: r => by
    unfold memN
    split
    · rename_i h; simp [Nat.eq_of_beq_eq_true h]
    · rename_i h
      have : x ≠ y := fun e => by subst e; rw [Nat.beq_refl] at h; cases h
      rw [memN_iff, List.mem_cons]
      exact ⟨.inr, fun h => h.resolve_left this⟩
theorem memN_not {x : Nat} {l : List Nat} (h : memN x l = false) : x ∉ l := fun hm => by rw [memN_iff.2 hm] at h; cases h
def unionN : List Nat → List Nat → List Nat
  | [], b => b
  | x :: r, b => match memN x b with
    | true => unionN r b
    | false => unionN r (x :: b)
theorem unionN_mem {x : Nat} : ∀ {a b : List Nat}, x ∈ unionN a b → x ∈ a ∨ x ∈ b
  | [], b, h => .inr h
  | y :: r, b, h => by
    unfold unionN at h
    split at h
    · rcases unionN_mem h with h | h
      · exact .inl (List.mem_cons_of_mem _ h)
      · exact .inr h
    · rcases unionN_mem h with h | h
      · exact .inl (List.mem_cons_of_mem _ h)
      · rcases List.mem_cons.1 h with rfl | h
        · exact .inl (by simp)
        · exact .inr h
def lookL : List (List Nat) → Nat → List Nat
  | [], _ => []
  | x :: _, 0 => x
  | _ :: r, n + 1 => lookL r n
/-- The ancestors of operations, the newest first; n: how many there are. -/
def edgesA (acc : List (List Nat)) (n : Nat) : List Edge → List Nat
  | [] => []
  | e :: r => match Region.binds .any e with
    | true => unionN (e.on :: lookL acc (n - 1 - e.on)) (edgesA acc n r)
    | false => edgesA acc n r
def ancs : List Oper → List (List Nat) → Nat → List (List Nat)
  | [], acc, _ => acc
  | o :: r, acc, n => ancs r (edgesA acc n o.after.toList :: acc) (n + 1)

/-- acc (newest first) says right for the first n operations. -/
def AncOk (l : List Oper) (acc : List (List Nat)) (n : Nat) : Prop := acc.length = n ∧ ∀ i x, i < n → x ∈ lookL acc (n - 1 - i) → Anc l i x
theorem edgesA_ok {l : List Oper} {acc : List (List Nat)} {n : Nat} {o : Oper} (hok : AncOk l acc n) (ho : l[n]? = some o) (hac : ∀ e ∈ o.after.toList, Region.binds .any e = true → e.on < n) :
    ∀ (es : List Edge), (∀ e ∈ es, e ∈ o.after.toList) → ∀ x ∈ edgesA acc n es, Anc l n x
  | [], _, x, h => by cases h
  | e :: r, hs, x, h => by
    have hr := edgesA_ok hok ho hac r (fun e he => hs e (List.mem_cons_of_mem _ he))
    unfold edgesA at h
    split at h
    · rename_i hb
      have he := hs e (by simp)
      have hw : waits o e.on = true := by
        unfold waits
        rw [Array.any_eq_true']
        exact ⟨e, by simpa using he, by simp [hb]⟩
      rcases unionN_mem h with h | h
      · rcases List.mem_cons.1 h with rfl | h
        · exact .one n _ o ho hw
        · exact .step n _ x o ho hw (hok.2 e.on x (hac e he hb) h)
      · exact hr x h
    · exact hr x h
theorem ancs_ok {l : List Oper} (hac : ∀ i o, l[i]? = some o → ∀ e ∈ o.after.toList, Region.binds .any e = true → e.on < i) : ∀ (r : List Oper) (acc : List (List Nat)) (n : Nat), (∀ i, r[i]? = l[n + i]?) → AncOk l acc n → AncOk l (ancs r acc n) (n + r.length)
  | [], acc, n, _, h => h
  | o :: r, acc, n, hr, h => by
    have ho : l[n]? = some o := by have := hr 0; simpa using this.symm
    have := ancs_ok hac r (edgesA acc n o.after.toList :: acc) (n + 1) (fun i => by have := hr (i + 1); rw [List.getElem?_cons_succ] at this; rw [this]; congr 1; omega) ⟨by simp [h.1], fun i x hi hx => by
      rcases Nat.lt_or_ge i n with hin | hin
      · rw [show n + 1 - 1 - i = (n - 1 - i) + 1 by omega] at hx
        exact h.2 i x hin hx
      · rw [show i = n by omega] at hx ⊢
        rw [show n + 1 - 1 - n = 0 by omega] at hx
        exact edgesA_ok h ho (hac n o ho) _ (fun _ h => h) x hx⟩
    rw [List.length_cons, show n + (r.length + 1) = n + 1 + r.length by omega]
    exact this

/-! ### Footprints -/
structure It where
  rd : List Nat
  dst : Option Tmp
  need : List (Nat × Blk)
  new : List Nat
  upd : List (Nat × Option Blk)
  r : SV
def rdOp : List Operand → List Nat
  | [] => []
  | .tmp t :: r => t :: rdOp r
  | _ :: r => rdOp r
theorem rdOp_mem {t : Nat} : ∀ {l : List Operand}, Operand.tmp t ∈ l → t ∈ rdOp l
  | .tmp u :: r, h => by
    rcases List.mem_cons.1 h with h | h
    · cases h; exact List.mem_cons_self
    · exact List.mem_cons_of_mem _ (rdOp_mem h)
  | .const _ :: r, h => rdOp_mem (l := r) (by simpa using h)
  | .global _ :: r, h => rdOp_mem (l := r) (by simpa using h)
  | .func _ :: r, h => rdOp_mem (l := r) (by simpa using h)
def guardRd (all : List Oper) (o : Oper) : List Nat := match o.guard with
  | none => []
  | some (j, _) => match (all[j]?).bind (·.dst) with
    | some d => [d]
    | none => []
def itOf (all : List Oper) (o : Oper) : Option Eff → It
  | some ρ => ⟨guardRd all o ++ rdOp o.op.operands.toList, o.dst, ρ.need, ρ.new, ρ.upd, ρ.r⟩
  | none => ⟨guardRd all o, o.dst, [], [], [], uS⟩
def itsOf (all : List Oper) : List Oper → List (Option Eff) → List It
  | o :: r, e :: τ => itOf all o e :: itsOf all r τ
  | _, _ => []
def hasDst (l : List Nat) : Option Tmp → Bool
  | some d => memN d l
  | none => false
def sameDst : Option Tmp → Option Tmp → Bool
  | some d, some e => Nat.beq d e
  | _, _ => false
def disjN : List Nat → List Nat → Bool
  | [], _ => true
  | x :: r, l => match memN x l with
    | true => false
    | false => disjN r l
theorem disjN_ok : ∀ {a b : List Nat}, disjN a b = true → ∀ x, x ∈ a → x ∉ b
  | [], _, _, _, h => by cases h
  | y :: r, b, h, x, hx => by
    unfold disjN at h
    split at h
    · cases h
    · rename_i hm
      rcases List.mem_cons.1 hx with rfl | hx
      · exact memN_not hm
      · exact disjN_ok h x hx
def keysU : List (Nat × Option Blk) → List Nat
  | [] => []
  | p :: r => p.1 :: keysU r
def keysN : List (Nat × Blk) → List Nat
  | [] => []
  | p :: r => p.1 :: keysN r
theorem keysU_mem {p : Nat × Option Blk} : ∀ {l : List (Nat × Option Blk)}, p ∈ l → p.1 ∈ keysU l
  | q :: r, h => by
    rcases List.mem_cons.1 h with rfl | h
    · exact List.mem_cons_self
    · exact List.mem_cons_of_mem _ (keysU_mem h)
theorem keysN_mem {p : Nat × Blk} : ∀ {l : List (Nat × Blk)}, p ∈ l → p.1 ∈ keysN l
  | q :: r, h => by
    rcases List.mem_cons.1 h with rfl | h
    · exact List.mem_cons_self
    · exact List.mem_cons_of_mem _ (keysN_mem h)
/-- Does an update mention block nb? -/
def updMent (nb : Nat) : List (Nat × Option Blk) → Bool
  | [] => false
  | (b, x) :: r => match Nat.beq b nb with
    | true => true
    | false => match x with
      | some (.bx _ cells) => match cells.any (AV.ment nb) with
        | true => true
        | false => updMent nb r
      | _ => updMent nb r
def It.ment (it : It) (nb : Nat) : Bool := match it.r.ment nb with
  | true => true
  | false => updMent nb it.upd
def noneMent (it : It) : List Nat → Bool
  | [] => true
  | nb :: r => match it.ment nb with
    | true => false
    | false => noneMent it r
theorem noneMent_ok {it : It} : ∀ {l : List Nat}, noneMent it l = true → ∀ nb ∈ l, it.ment nb = false
  | nb :: r, h, x, hx => by
    unfold noneMent at h
    split at h
    · cases h
    · rename_i hm
      rcases List.mem_cons.1 hx with rfl | hx
      · exact hm
      · exact noneMent_ok h x hx
/-- The earlier operation a and the later b may change places. -/
def free (a b : It) : Bool := !hasDst b.rd a.dst && !hasDst a.rd b.dst && !sameDst a.dst b.dst && disjN (keysU a.upd) (keysU b.upd) && disjN (keysU a.upd) (keysN b.need) && disjN (keysU b.upd) (keysN a.need) && noneMent b a.new

/-- The operation at place n against the earlier ones (newest first). -/
def earlierB (an : List Nat) (it : It) : List It → Nat → Bool
  | [], _ => true
  | a :: r, n => (match memN (n - 1) an with | true => true | false => free a it) && noneMent a it.new && earlierB an it r (n - 1)
def pairsB (s0 : St) (k : Nat) (A : List (List Nat)) (len : Nat) : List It → List It → Nat → Bool
  | [], _, _ => true
  | it :: r, done, n => earlierB (lookL A (len - 1 - n)) it done n && it.new.all (s0.freshB k) && pairsB s0 k A len r (it :: done) (n + 1)
def acycB : List Oper → Nat → Bool
  | [], _ => true
  | o :: r, n => o.after.toList.all (fun e => match Region.binds .any e with | true => Nat.blt e.on n | false => true) && acycB r (n + 1)
/-- The check of a drawn region: its operations, the state ahead, the trace. -/
def drawB (l : List Oper) (s0 : St) (k : Nat) (τ : List (Option Eff)) : Bool := acycB l 0 && pairsB s0 k (ancs l [] 0) l.length (itsOf l l τ) [] 0
end Go.Proofs.YtjfkdjlmajfljaaDoor
