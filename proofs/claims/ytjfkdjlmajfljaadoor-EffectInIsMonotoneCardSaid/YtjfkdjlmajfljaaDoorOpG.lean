/- One operation on abstract values: slices of slices; calls. -/
import Derived.Test.YtjfkdjlmajfljaaDoorOpF
namespace Go.Proofs.YtjfkdjlmajfljaaDoor
open Go.RowKit

section
variable {P : Program} {C : Ctx} {w : World} {η : Nat → Value} {F : Nat → Prop} {sl : Sl} {hp : Hp} {N : Nat} {a : Act} {o : Oper} {ev : Operand → SV} {t : TypeId} {y : Ty}

theorem Tr.sub {rows : List (List TV)} {a0 : Option Addr} {n c : Nat} (h : Tr w F (.tree rows) (.slice a0 n c)) {sz : Nat} (hsz : ∀ row ∈ rows, row.length = sz) {l r m : Nat} (hl : l ≤ r) (hr : r ≤ rows.length) (hm : m ≤ c) (hrm : r ≤ m) : Tr w F (.tree ((rows.drop l).take (r - l))) (sliced a0 l r m sz) := by
  unfold sliced
  generalize hu : Value.slice a0 n c = u at h
  cases h with
  | empty a c' hm' =>
    injection hu with h1 h2 h3
    have : l = 0 := by simp at hr; omega
    subst this
    have : r = 0 := by simp at hr; omega
    subst this
    exact .empty _ _ (by omega)
  | tree _ g o' sz' c' cv hc hmx hsz' hF hcell htr =>
    injection hu with h1 h2 h3
    subst h1; subst h2; subst h3
    by_cases he : l = r
    · subst he
      rw [Nat.sub_self, List.take_zero]
      exact .empty _ _ (by omega)
    · have hss : sz' = sz := by
        have : 0 < rows.length := by omega
        have hmem := List.getElem_mem this
        rw [← hsz _ hmem, hsz' _ hmem]
      subst hss
      rw [if_neg (by omega)]
      have hlen : ((rows.drop l).take (r - l)).length = r - l := by rw [List.length_take, List.length_drop]; omega
      have hget : ∀ (i : Nat) (row : List TV), ((rows.drop l).take (r - l))[i]? = some row → rows[l + i]? = some row := fun i row hi => by
        rw [List.getElem?_take] at hi
        split at hi
        · rwa [List.getElem?_drop] at hi
        · cases hi
      have := Tr.tree (w := w) (F := F) ((rows.drop l).take (r - l)) g (o' + l * sz') sz' (m - l) (fun i j => cv (l + i) j) (by rw [hlen]; omega) (by omega) (fun row hrow => hsz' row (List.mem_of_mem_drop (List.mem_of_mem_take hrow))) hF
        (fun i j row x hi hj => by
          have := hcell (l + i) j row x (hget i row hi) hj
          rwa [Nat.add_mul, show o' + (l * sz' + i * sz' + j) = o' + l * sz' + (i * sz' + j) by omega] at this)
        (fun i j row x hi hj => htr (l + i) j row x (hget i row hi) hj)
      rw [hlen] at this
      simpa [addr_add] using this

theorem run_sliceT {e : TypeId} {ye : Ty} (hy : TyFits P t y) (hs : y.shp = .slice e) (hye : TyFits P e ye) (a0 : Option Addr) (n c : Nat) (lo hi mx : Option Value) {l r m : Nat} (hb : (Instr.sliceBounds true n c lo hi mx).run P w = .ok (l, r, m) w) :
    (Instr.sliceAt t (.slice a0 n c) lo hi mx).run P w = .ok (sliced a0 l r m ye.size) w := by
  simp [Instr.sliceAt, Instr.slice, run_underlying (hy.slice hs), hb, hye.run_size, sliced]

/-- The bounds of a slice expression without a third index, as numbers. -/
def Bnd (ev : Operand → SV) (lo hi : Option Operand) (n : Nat) (l r : Nat) : Prop :=
  (match lo with | none => l = 0 | some x => ∃ k, ev x = iS k (l : Int)) ∧ (match hi with | none => r = n | some x => ∃ k, ev x = iS k (r : Int)) ∧ l ≤ r ∧ r ≤ n

theorem run_bounds (hR : Reps C w η F sl hp N a) {lo hi : Option Operand} {n c l r : Nat} (hb : Bnd ev lo hi n l r) (hc : n ≤ c) (h1 : ∀ x, lo = some x → evalS sl x = ev x) (h2 : ∀ x, hi = some x → evalS sl x = ev x) :
    (Instr.sliceBounds true n c (lo.map a.eval) (hi.map a.eval) none).run P w = .ok (l, r, c) w := by
  obtain ⟨hl, hr, hlr, hrn⟩ := hb
  cases lo with
  | none =>
    dsimp only at hl
    subst hl
    cases hi with
    | none => dsimp only at hr; subst hr; simp [Instr.sliceBounds]
    | some z =>
      obtain ⟨k, hk⟩ := hr
      have e := hR.int ((h2 z rfl).trans hk)
      simp [Instr.sliceBounds, e, run_sliceBound, (by omega : (r : Int) ≤ (c : Int))]
  | some x =>
    obtain ⟨k, hk⟩ := hl
    have e := hR.int ((h1 x rfl).trans hk)
    cases hi with
    | none =>
      dsimp only at hr
      subst hr
      simp [Instr.sliceBounds, e, run_sliceBound, (by omega : (l : Int) ≤ (r : Int))]
    | some z =>
      obtain ⟨k', hk'⟩ := hr
      have e' := hR.int ((h2 z rfl).trans hk')
      simp [Instr.sliceBounds, e, e', run_sliceBound, (by omega : (l : Int) ≤ (r : Int)), (by omega : (r : Int) ≤ (c : Int))]

theorem OStep.sliceT {x : Operand} {lo hi : Option Operand} {rows : List (List TV)} {e : TypeId} {ye : Ty} {l r : Nat} (ho : o.op = .slice t x lo hi none) (hx : ev x = tS rows) (hy : TyFits P t y) (hs : y.shp = .slice e) (hye : TyFits P e ye) (hsz : ∀ row ∈ rows, row.length = ye.size) (hb : Bnd ev lo hi rows.length l r) :
    OStep P o ev ⟨[], [], [], tS ((rows.drop l).take (r - l))⟩ :=
  .pure fun C w η F sl hp N a hR hev hnd => by
    have h1 := hR.treev ((hev x (by simp [ho, Op.operands])).trans hx)
    have hc : ∃ a0 c, a.eval x = .slice a0 rows.length c ∧ rows.length ≤ c := by
      generalize a.eval x = u at h1
      cases h1 with
      | empty a c hm => exact ⟨a, c, rfl, Nat.zero_le _⟩
      | tree _ g o' sz' c cv hc hmx hsz' hF hcell htr => exact ⟨_, c, rfl, hc⟩
    obtain ⟨a0, c, h2, h3⟩ := hc
    have hbd := run_bounds (P := P) hR hb h3 (fun z hz => hev z (by subst hz; simp [ho, Op.operands])) (fun z hz => hev z (by subst hz; cases lo <;> simp [ho, Op.operands]))
    obtain ⟨_, _, hlr, hrn⟩ := hb
    refine ⟨sliced a0 l r c ye.size, ?_, ?_⟩
    · unfold execOp; rw [ho]
      simp only [h2, Option.map_none, Sem.run_bind, run_sliceT hy hs hye a0 _ c _ _ _ hbd, Result.andThen_ok]
      rfl
    · rw [h2] at h1
      exact h1.sub hsz hlr hrn (Nat.le_refl _) (by omega)

/-- The beginning of a slice of one's own: the old number is given up. -/
theorem OStep.sliceM {x : Operand} {hi : Option Operand} {b nb : Nat} {rows : List (List TV)} {e : TypeId} {ye : Ty} {r : Nat} (ho : o.op = .slice t x none hi none) (hx : ev x = .w (.c (.mref b))) (hy : TyFits P t y) (hs : y.shp = .slice e) (hye : TyFits P e ye) (hb : Bnd ev none hi rows.length 0 r) :
    OStep P o ev ⟨[(b, .sl e ye.size false rows)], [nb], [(b, none), (nb, some (.sl e ye.size false (rows.take r)))], .w (.c (.mref nb))⟩ :=
  .heap fun C w η F sl hp N a hR hev hnd hnew => by
    obtain ⟨hn, hu, hus, hbs⟩ := hnew nb (by simp)
    have hbb : hp b = some (.sl e ye.size false rows) := hnd (b, .sl e ye.size false rows) (by simp)
    have h1 := hR.mrefv ((hev x (by simp [ho, Op.operands])).trans hx) hbb
    obtain ⟨cells, hown, hszb, htrb⟩ := hR.heap.blocks b _ hbb
    have hrn := hb.2.2.2
    have hev2 : ∀ z, hi = some z → evalS sl z = ev z := fun z hz => hev z (by subst hz; simp [ho, Op.operands])
    have hcells : cells.length = rows.length * ye.size := hown.1
    have hrs : r * ye.size ≤ rows.length * ye.size := Nat.mul_le_mul_right _ hrn
    have hgr : w.grownBy w (η b).ownBlock := ⟨rfl, rfl, rfl, Nat.le_refl _, fun _ _ _ => rfl⟩
    have hbr : ∀ (v' : Value) (η' : Nat → Value) (hp' : Hp), η' nb = v' → w.ownsRow 0 e ye.size v' r (cells.take (r * ye.size)) → BRep w F η' hp' nb (.sl e ye.size false (rows.take r)) := fun v' η' hp' hη ho' => by
      refine ⟨cells.take (r * ye.size), by rw [hη, List.length_take, Nat.min_eq_left hrn]; exact ho', fun row hr => hszb row (List.mem_of_mem_take hr), fun i j row z hi' hj => ?_⟩
      rw [List.getElem?_take] at hi'
      split at hi'
      · rename_i hir
        obtain ⟨u, h3, h4⟩ := htrb i j row z hi' hj
        have hjl : j < ye.size := by rw [← hszb row (List.mem_of_getElem? hi')]; exact (List.getElem?_eq_some_iff.1 hj).1
        have hb := row_lt (rows := List.replicate r ([] : List TV)) (sz := ye.size) (i := i) (by simpa using hir)
        simp only [List.length_replicate] at hb
        exact ⟨u, by rw [List.getElem?_take, if_pos (by omega)]; exact h3, h4⟩
      · cases hi'
    have key : ∃ v', (Instr.sliceAt t (η b) none (hi.map a.eval) none).run P w = .ok v' w ∧ w.ownsRow 0 e ye.size v' r (cells.take (r * ye.size)) ∧ (∀ g, v'.ownBlock = some g → (η b).ownBlock = some g) := by
      rcases hown.2 with ⟨e1, e2⟩ | ⟨g, cap, cur, e1, e2, e3, e4, e5, e6, e7⟩
      · have hr0 : r = 0 := by omega
        subst hr0
        have hbd := run_bounds (P := P) (c := 0) hR hb (by omega) (fun z hz => by cases hz) hev2
        rw [e1]
        have := run_sliceT (w := w) hy hs hye none rows.length 0 none (hi.map a.eval) none hbd
        rw [e2] at this
        refine ⟨_, this, ?_, fun g hg => ?_⟩
        · simp only [sliced, Nat.zero_mul, List.take_zero]
          exact ⟨by simp, .inl ⟨rfl, rfl⟩⟩
        · simp [sliced, Value.ownBlock] at hg
      · have hbd := run_bounds (P := P) (c := cap) hR hb e4 (fun z hz => by cases hz) hev2
        rw [e1]
        have hsl : sliced (some ⟨g, 0, none⟩) 0 r cap ye.size = .slice (some ⟨g, 0, none⟩) r cap := by
          unfold sliced
          split <;> simp [Addr.add]
        have hrun := run_sliceT (w := w) hy hs hye (some ⟨g, 0, none⟩) rows.length cap none (hi.map a.eval) none hbd
        rw [hsl] at hrun
        exact ⟨_, hrun, ⟨by rw [List.length_take]; omega, .inr ⟨g, cap, cur, rfl, e2, e3, by omega, e5, e6, by rw [← e7, List.take_take, Nat.min_eq_left hrs]⟩⟩, fun g' hg => hg⟩
    obtain ⟨v', hr, hO, hnw⟩ := key
    obtain ⟨h5, h6, h7⟩ := append_old (rs := rows.take r) (v' := v') (w' := w) hR hbb hn hu hus hbs hgr (fun g hg => .inl (hnw g hg)) (fun _ => hbr v' _ _ (ηSet_same _ _ _) hO)
    refine ⟨v', w, _, F, .inl ?_, h5, fun _ h => h, h6, h7, ?_⟩
    · unfold execOp; rw [ho]
      simp only [h1, Option.map_none, Sem.run_bind, hr, Result.andThen_ok]
      rfl
    · simp only [SRep, WRep, CRep, hpUpd, hpSet_same, ηSet_same]
end
#print axioms OStep.sliceM
end Go.Proofs.YtjfkdjlmajfljaaDoor
