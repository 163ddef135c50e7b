/- From a function's code to its contract. -/
import Derived.Test.YtjfkdjlmajfljaaDoorGhost
namespace Go.Proofs.YtjfkdjlmajfljaaDoor
open Go.RowKit

def ResOk (P : Program) (s : St) : List ResultVar → List WV → Prop
  | [], [] => True
  | .tmp t :: r, x :: l => lookS s.slots t = .w x ∧ ResOk P s r l
  | .cell q t :: r, x :: l => (∃ b i off e cells y, lookS s.slots q = .w (.c (.ptr b i off)) ∧ lookH s.heap b = some (.bx e cells) ∧ TyFits P t y ∧ cut y cells off = some x) ∧ ResOk P s r l
  | _, _ => False
def resSV : List WV → SV
  | [x] => .w x
  | l => .tup l
def HeapIs (s : St) : Nat → List (TypeId × List TV) → Prop
  | _, [] => True
  | j, (e, ts) :: r => lookH s.heap j = some (.bx e (ts.map .v)) ∧ HeapIs s (j + 1) r
def ExpIs (s : St) : List Nat → List Blk → Prop
  | [], [] => True
  | b :: r, k :: l => lookH s.heap b = some k ∧ k.exp ∧ ExpIs s r l
  | _, _ => False
def expRen (k : Nat) (src : List Nat) (j : Nat) : Nat := if j < k then j else src.getD (j - k) 0

/-- The state in which a function may return r, with new blocks E and B' in the lent ones. -/
def RetOk (P : Program) (k : Nat) (rs : List ResultVar) (r : SV) (E : List Blk) (B' : List (TypeId × List TV)) (s : St) : Prop :=
  ∃ (l : List WV) (src : List Nat), ResOk P s rs l ∧ resSV l = r.ren (expRen k src) ∧ ExpIs s src E ∧ (List.range k ++ src).Nodup ∧ HeapIs s 0 B' ∧ r.below (k + E.length) = true

section
variable {P : Program} {N k : Nat} {s : St} {C : Ctx} {w : World} {η : Nat → Value} {F : Nat → Prop} {a : Act}

theorem HeapIs.at_ : ∀ {B : List (TypeId × List TV)} {j : Nat}, HeapIs s j B → ∀ (i : Nat) (x : TypeId × List TV), B[i]? = some x → lookH s.heap (j + i) = some (.bx x.1 (x.2.map .v))
  | [], _, _, _, _, h => by simp at h
  | (e, ts) :: r, j, h, 0, x, hx => by simp at hx; subst hx; exact h.1
  | (e, ts) :: r, j, h, i + 1, x, hx => by
    have := HeapIs.at_ h.2 i x (by simpa using hx)
    rwa [show j + 1 + i = j + (i + 1) by omega] at this
theorem ExpIs.at_ : ∀ {src : List Nat} {E : List Blk}, ExpIs s src E → src.length = E.length ∧ ∀ (i : Nat) (kb : Blk), E[i]? = some kb → ∃ b, src[i]? = some b ∧ lookH s.heap b = some kb ∧ kb.exp
  | [], [], _ => ⟨rfl, by simp⟩
  | b :: r, kb :: l, h => by
    obtain ⟨h1, h2⟩ := ExpIs.at_ h.2.2
    refine ⟨by simp [h1], fun i x hx => ?_⟩
    cases i with
    | zero => simp at hx; subst hx; exact ⟨b, rfl, h.1, h.2.1⟩
    | succ i => exact h2 i x (by simpa using hx)
  | [], _ :: _, h => h.elim
  | _ :: _, [], h => h.elim

def resF (tmps : Array Value) : ResultVar → Sem Value
  | .tmp t => Pure.pure (tmps.getD t undef)
  | .cell q t => do loadVar t (← asAddr (tmps.getD q undef))

theorem results_run (hR : Reps C w η F s.sl s.hp N a) : ∀ {rs : List ResultVar} {l : List WV}, ResOk P s rs l → ∃ us : List Value, (rs.mapM (resF a.tmps)).run P w = .ok us w ∧ us.length = l.length ∧ ∀ (i : Nat) (x : WV) (u : Value), l[i]? = some x → us[i]? = some u → WRep w F η s.hp x u
  | [], [], _ => ⟨[], rfl, rfl, by simp⟩
  | .tmp t :: r, x :: l, h => by
    obtain ⟨us, h1, h2, h3⟩ := results_run hR h.2
    refine ⟨a.tmps.getD t undef :: us, ?_, by simp [h2], fun i y u hy hu => ?_⟩
    · rw [List.mapM_cons]
      simp only [Sem.run_bind, resF, Sem.run_pure, Result.andThen_ok, h1]
    · cases i with
      | zero =>
        simp only [List.getElem?_cons_zero, Option.some.injEq] at hy hu
        subst hy; subst hu
        have := hR.slots t
        rw [show s.sl t = .w x from h.1] at this
        exact this
      | succ i => exact h3 i y u (by simpa using hy) (by simpa using hu)
  | .cell q t :: r, x :: l, h => by
    obtain ⟨us, h1, h2, h3⟩ := results_run hR h.2
    obtain ⟨b, i, off, e, cells, y, h4, h5, h6, h7⟩ := h.1
    have h8 := hR.slots q
    rw [show s.sl q = .w (.c (.ptr b i off)) from h4] at h8
    simp only [SRep, WRep, CRep, show s.hp b = some (.bx e cells) from h5] at h8
    obtain ⟨g, h9, h10⟩ := h8
    obtain ⟨g', cs, h11, h12, h13⟩ := hR.heap.blocks b _ h5
    rw [h9] at h11
    injection h11 with h11
    injection h11 with h11
    injection h11 with h11
    subst h11
    obtain ⟨u, h14, h15⟩ := run_cut (P := P) (w := w) h6 h7 (g := g) (p := 0) h13 (fun j u hj => by rw [Nat.zero_add, cell_of_row w g j _ _ _ h12]; simpa using hj)
    rw [Nat.zero_add] at h14
    refine ⟨u :: us, ?_, by simp [h2], fun i y u' hy hu => ?_⟩
    · rw [List.mapM_cons]
      simp only [Sem.run_bind, resF, h10, asAddr, Sem.run_pure, Result.andThen_ok, h14, h1]
    · cases i with
      | zero =>
        simp only [List.getElem?_cons_zero, Option.some.injEq] at hy hu
        subst hy; subst hu
        exact h15
      | succ i => exact h3 i y u' (by simpa using hy) (by simpa using hu)
  | [], _ :: _, h => h.elim
  | .tmp _ :: _, [], h => h.elim
  | .cell .. :: _, [], h => h.elim

theorem results_ok (hR : Reps C w η F s.sl s.hp N a) {fn : Func} {rs : List ResultVar} (hrs : fn.results = rs.toArray) {l : List WV} (h : ResOk P s rs l) : ∃ v, (results fn a.tmps).run P w = .ok v w ∧ SRep w F η s.hp (resSV l) v := by
  obtain ⟨us, h1, h2, h3⟩ := results_run hR h
  have hm : (fn.results.mapM (resF a.tmps)).run P w = .ok us.toArray w := by
    rw [hrs, Array.mapM_eq_mapM_toList]
    simp only [Sem.run_map]
    rw [h1]
    rfl
  refine ⟨if hs : us.toArray.size = 1 then us.toArray[0] else .tuple us.toArray, ?_, ?_⟩
  · have e : results fn a.tmps = (do
        let vs ← fn.results.mapM (resF a.tmps)
        Pure.pure (if h : vs.size = 1 then vs[0] else .tuple vs)) := rfl
    rw [e, Sem.run_bind, hm]
    rfl
  · match l, us, h2, h3 with
    | [x], [u], _, h3 => exact h3 0 x u rfl rfl
    | [], [], _, h3 => exact ⟨[], rfl, rfl, by simp⟩
    | x :: y :: l, u :: v :: us, h2, h3 =>
      rw [dif_neg (by simp)]
      exact ⟨u :: v :: us, rfl, h2, h3⟩

theorem HRep.export {B' : List (TypeId × List TV)} {E : List Blk} {src : List Nat} (hH : HRep C w η F s.hp) (hk : C.bs.length = k) (hB : B'.length = k) (he : ExpIs s src E) (hnd : (List.range k ++ src).Nodup) (hh : HeapIs s 0 B') :
    HRep C w (fun j => η (expRen k src j)) F (afterHp B' E) ∧ ∀ j, j < k + E.length → ∃ kb, afterHp B' E j = some kb ∧ s.hp (expRen k src j) = some kb := by
  obtain ⟨hl, he⟩ := he.at_
  have hlook : ∀ j kb, afterHp B' E j = some kb → s.hp (expRen k src j) = some kb ∧ kb.exp ∧ (j < k ∧ expRen k src j = j ∨ k ≤ j ∧ ∃ b, src[j - k]? = some b ∧ expRen k src j = b) := fun j kb hj => by
    unfold afterHp at hj
    split at hj
    · rename_i hlt
      unfold lentHp at hj
      rw [Option.map_eq_some_iff] at hj
      obtain ⟨x, h1, h2⟩ := hj
      have h3 := hh.at_ j x h1
      rw [Nat.zero_add] at h3
      have h4 : expRen k src j = j := by unfold expRen; rw [if_pos (by omega)]
      rw [h4]
      exact ⟨by rw [← h2]; exact h3, by rw [← h2]; exact ⟨x.2, rfl⟩, .inl ⟨by omega, rfl⟩⟩
    · rename_i hge
      obtain ⟨b, h1, h2, h3⟩ := he _ kb hj
      have h4 : expRen k src j = b := by
        unfold expRen
        rw [if_neg (by omega), List.getD_eq_getElem?_getD, show j - k = j - B'.length by omega, h1]
        rfl
      rw [h4]
      exact ⟨h2, h3, .inr ⟨by omega, b, by rw [show j - k = j - B'.length by omega]; exact h1, rfl⟩⟩
  have hlive : ∀ kb : Blk, kb.exp → kb.live = true := fun kb hk => by cases kb <;> simp_all [Blk.exp, Blk.live]
  have hinj : ∀ j j' kb kb', afterHp B' E j = some kb → afterHp B' E j' = some kb' → j ≠ j' → expRen k src j ≠ expRen k src j' := fun j j' kb kb' h1 h2 hne heq => by
    obtain ⟨_, _, h3⟩ := hlook j kb h1
    obtain ⟨_, _, h4⟩ := hlook j' kb' h2
    obtain ⟨n1, n2, n3⟩ := List.nodup_append.1 hnd
    rcases h3 with ⟨q1, q2⟩ | ⟨q1, b, q2, q3⟩ <;> rcases h4 with ⟨q4, q5⟩ | ⟨q4, b', q5, q6⟩
    · rw [q2, q5] at heq; exact hne heq
    · rw [q2, q6] at heq
      exact n3 j (List.mem_range.2 q1) b' (List.mem_of_getElem? q5) heq
    · rw [q3, q5] at heq
      exact n3 j' (List.mem_range.2 q4) b (List.mem_of_getElem? q2) heq.symm
    · rw [q3, q6] at heq
      subst heq
      obtain ⟨z1, z2⟩ := List.getElem?_eq_some_iff.1 q2
      obtain ⟨z3, z4⟩ := List.getElem?_eq_some_iff.1 q5
      have := (List.getElem_inj n2).1 (z2.trans z4.symm)
      omega
  refine ⟨⟨fun j kb hj => ?_, fun j j' kb kb' g hj hj' hne hl hl' hg => ?_, fun j kb g hj hl hg => ?_, fun j kb g hj hl hg => ?_, hH.Flt, fun j kb g hj hl hg => ?_, fun j g hj => ?_, hH.keep, hH.Fbd, hH.amb⟩, fun j hj => ?_⟩
  · obtain ⟨h1, h2, _⟩ := hlook j kb hj
    have h3 := hH.blocks _ kb h1
    cases kb with
    | sl e sz f rows => exact h3
    | bx e cells =>
      obtain ⟨ts, rfl⟩ := h2
      obtain ⟨g, cs, q1, q2, q3⟩ := h3
      exact ⟨g, cs, q1, q2, csRep_closed (by simpa using q3.1) fun i x u hx hu => q3.2.2 i (.v x) u (by rw [List.getElem?_map, hx]; rfl) hu⟩
  · exact hH.sep _ _ kb kb' g (hlook j kb hj).1 (hlook j' kb' hj').1 (hinj j j' kb kb' hj hj' hne) hl hl' hg
  · exact hH.liveF _ kb g (hlook j kb hj).1 hl hg
  · exact hH.frzF _ kb g (hlook j kb hj).1 hl hg
  · obtain ⟨h1, h2, h3⟩ := hlook j kb hj
    have h4 := hH.fresh _ kb g h1 hl hg
    rcases h3 with ⟨q1, q2⟩ | ⟨q1, b, q2, q3⟩
    · rw [q2] at h4; exact h4
    · rcases h4 with h4 | h4
      · exact .inl ⟨h4.1, by rw [hk]; exact q1⟩
      · rw [q3] at h4
        obtain ⟨_, _, n3⟩ := List.nodup_append.1 hnd
        have hb : b < k := by rw [← hk]; exact (List.getElem?_eq_some_iff.1 h4).1
        exact (n3 b (List.mem_range.2 hb) b (List.mem_of_getElem? q2) rfl).elim
  · have hjk : j < k := by rw [← hk]; exact (List.getElem?_eq_some_iff.1 hj).1
    have h4 : expRen k src j = j := by unfold expRen; rw [if_pos hjk]
    rw [h4]
    have hjB : j < B'.length := by omega
    refine ⟨⟨_, _, by unfold afterHp lentHp; rw [if_pos hjB, List.getElem?_eq_getElem hjB]; rfl⟩, (hH.bor j g hj).2⟩
  · have : ∃ kb, afterHp B' E j = some kb := by
      unfold afterHp
      split
      · rename_i h
        exact ⟨_, by unfold lentHp; rw [List.getElem?_eq_getElem h]; rfl⟩
      · exact ⟨_, List.getElem?_eq_getElem (by omega)⟩
    obtain ⟨kb, h1⟩ := this
    exact ⟨kb, h1, (hlook j kb h1).1⟩

section
variable {hp hp' : Hp} {ρ : Nat → Nat} {n : Nat}
theorem crep_unren (h : ∀ j, j < n → ∃ kb, hp' j = some kb ∧ hp (ρ j) = some kb) {x : AV} {u : Value} (hx : x.below n = true) (hs : CRep w F η hp (x.ren ρ) u) : CRep w F (fun j => η (ρ j)) hp' x u := by
  cases x with
  | mref b =>
    obtain ⟨kb, h1, h2⟩ := h b (by simpa [AV.below] using hx)
    simp only [AV.ren, CRep, h1, h2] at hs ⊢
    exact hs
  | ptr b i o =>
    obtain ⟨kb, h1, h2⟩ := h b (by simpa [AV.below] using hx)
    simp only [AV.ren, CRep, h1, h2] at hs ⊢
    exact hs
  | v t => exact hs
  | tptr row o => exact hs
  | one => exact hs
  | any => trivial
theorem wrep_unren (h : ∀ j, j < n → ∃ kb, hp' j = some kb ∧ hp (ρ j) = some kb) {x : WV} {u : Value} (hx : x.below n = true) (hs : WRep w F η hp (x.ren ρ) u) : WRep w F (fun j => η (ρ j)) hp' x u := by
  cases x with
  | c a => exact crep_unren h hx hs
  | agg l =>
    obtain ⟨us, h1, h2, h3, h4⟩ := hs
    refine ⟨us, h1, by simpa using h2, h3, fun i x u hi hu => crep_unren h (List.all_eq_true.1 hx x (List.mem_of_getElem? hi)) (h4 i (x.ren ρ) u (by rw [List.getElem?_map, hi]; rfl) hu)⟩
theorem srep_unren (h : ∀ j, j < n → ∃ kb, hp' j = some kb ∧ hp (ρ j) = some kb) {x : SV} {u : Value} (hx : x.below n = true) (hs : SRep w F η hp (x.ren ρ) u) : SRep w F (fun j => η (ρ j)) hp' x u := by
  cases x with
  | w x => exact wrep_unren h hx hs
  | tup l =>
    obtain ⟨us, h1, h2, h3⟩ := hs
    exact ⟨us, h1, by simpa using h2, fun i x u hi hu => wrep_unren h (List.all_eq_true.1 hx x (List.mem_of_getElem? hi)) (h3 i (x.ren ρ) u (by rw [List.getElem?_map, hi]; rfl) hu)⟩
end

/-- The slots in which the arguments lie. -/
def argSlots : Nat → List WV → List (Nat × SV)
  | _, [] => []
  | i, x :: r => (i, .w x) :: argSlots (i + 1) r
theorem lookS_args : ∀ (l : List WV) (i t : Nat), (∃ j x, t = i + j ∧ l[j]? = some x ∧ lookS (argSlots i l) t = .w x) ∨ lookS (argSlots i l) t = SV.any
  | [], _, _ => .inr rfl
  | x :: r, i, t => by
    unfold argSlots lookS
    cases h : Nat.beq i t with
    | true => exact .inl ⟨0, x, (Nat.eq_of_beq_eq_true h).symm, rfl, rfl⟩
    | false =>
      rcases lookS_args r (i + 1) t with ⟨j, z, h1, h2, h3⟩ | h3
      · exact .inl ⟨j + 1, z, by omega, by simpa using h2, h3⟩
      · exact .inr h3
def lentL (B : List (TypeId × List TV)) : List (Option Blk) := B.map fun x => some (.bx x.1 (x.2.map .v))
theorem lookH_lent : ∀ (B : List (TypeId × List TV)) (j : Nat), lookH (lentL B) j = lentHp B j
  | [], _ => rfl
  | _ :: _, 0 => rfl
  | _ :: r, j + 1 => by
    show lookH (lentL r) j = lentHp (_ :: r) (j + 1)
    rw [lookH_lent r j]
    unfold lentHp
    simp

def retQ (P : Program) (k : Nat) (rs : List ResultVar) (r : SV) (E : List Blk) (B' : List (TypeId × List TV)) : Exit → St → Prop
  | .normal, s => RetOk P k rs r E B' s
  | .ret, s => RetOk P k rs r E B' s
  | _, _ => False

theorem FCalls.of {f : FuncId} {fn : Func} {code : Code} {B B' : List (TypeId × List TV)} {args : List WV} {r : SV} {E : List Blk} {rs : List ResultVar} (N : Nat) (hf : P.funcs[f]? = some fn) (hb : fn.body = some code) (hname : (fn.name == "runtime.NumGoroutine") = false) (hN : args.length + (fn.ntmps - args.length) = N) (hrs : fn.results = rs.toArray) (hB : B'.map (·.1) = B.map (·.1))
    (h : VW P N B.length code (retQ P B.length rs r E B') ⟨argSlots 0 args, lentL B⟩) : FCalls P f B args r E B' := by
  refine ⟨⟨fn, hf, hname, by rw [hb]; rfl⟩, hB, fun w gs η F vs hg hH hvs hargs => ?_⟩
  refine calls_of_wp hf hb ?_
  have hBl : B'.length = B.length := by have := congrArg List.length hB; simpa using this
  refine wp_mono (h ⟨w, gs, F⟩ w { tmps := vs ++ Array.replicate (fn.ntmps - vs.size) undef, defers := [] } hg ⟨η, F, ⟨by simp [hvs, hN], rfl, fun t => ?_, ?_⟩⟩) fun e a' w' ⟨s', h1, h2⟩ => ?_
  · show SRep w F η (lookH (lentL B)) (lookS (argSlots 0 args) t) _
    have e : lookH (lentL B) = lentHp B := funext (lookH_lent B)
    rw [e]
    rcases lookS_args args 0 t with ⟨j, x, h1, h2, h3⟩ | h3
    · rw [h3]
      have hj : j < vs.size := by rw [hvs]; exact (List.getElem?_eq_some_iff.1 h2).1
      rw [show t = j by omega, Array.getD_eq_getD_getElem?, Array.getElem?_append_left hj, Array.getElem?_eq_getElem hj]
      exact hargs j x vs[j] h2 (Array.getElem?_eq_getElem hj)
    · rw [h3]; exact SRep.any _ _ _ _ _
  · show HRep ⟨w, gs, F⟩ w η F (lookH (lentL B))
    have e : lookH (lentL B) = lentHp B := funext (lookH_lent B)
    rw [e]; exact hH
  · have key : RetOk P B.length rs r E B' s' → a'.defers = [] ∧ ∃ v, (results fn a'.tmps).run P w' = .ok v w' ∧ ∃ v' η' F', Ending.returned v = .returned v' ∧ HRep ⟨w, gs, F⟩ w' η' F' (afterHp B' E) ∧ SRep w' F' η' (afterHp B' E) r v' := fun hret => by
      obtain ⟨η', F', hR⟩ := h2
      obtain ⟨l, src, q1, q2, q3, q4, q5, q6⟩ := hret
      obtain ⟨v, q7, q8⟩ := results_ok hR hrs q1
      obtain ⟨q9, q10⟩ := hR.heap.export (k := B.length) hg hBl q3 q4 q5
      refine ⟨hR.defers, v, q7, v, _, F', rfl, q9, ?_⟩
      rw [q2] at q8
      have : ∀ {x : SV}, x.below (B.length + E.length) = true → SRep w' F' η' s'.hp (x.ren (expRen B.length src)) v → SRep w' F' (fun j => η' (expRen B.length src j)) (afterHp B' E) x v := by
        intro x hx hs
        exact srep_unren (fun j hj => q10 j hj) hx hs
      exact this q6 q8
    cases e with
    | normal => exact key h1
    | ret => exact key h1
    | _ => exact h1.elim
end
end Go.Proofs.YtjfkdjlmajfljaaDoor
