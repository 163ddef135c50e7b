/- What stands behind a call. -/
import Derived.Test.YtjfkdjlmajfljaaDoorCallA
namespace Go.Proofs.YtjfkdjlmajfljaaDoor
open Go.RowKit

def TV.sc : TV → Prop
  | .tree _ => False
  | _ => True
def Blk.exp : Blk → Prop
  | .sl _ _ f _ => f = false
  | .bx _ cells => ∃ ts : List TV, cells = ts.map .v
def Blk.sc : Blk → Prop
  | .sl _ _ _ rows => ∀ row ∈ rows, ∀ x ∈ row, x.sc
  | .bx _ cells => ∀ x ∈ cells, ∃ t : TV, x = .v t ∧ t.sc
def Blk.freeze : Blk → Blk
  | .sl e sz _ rows => .sl e sz true rows
  | b => b
def callUpd (frz : Bool) (S : List (Nat × Blk)) (L : List Nat) (B' : List (TypeId × List TV)) (Nw : List Nat) (E : List Blk) : List (Nat × Option Blk) :=
  ((L.zip B').map fun p => (p.1, some (.bx p.2.1 (p.2.2.map .v)))) ++ ((Nw.zip E).map fun p => (p.1, some p.2)) ++ (if frz then S.map fun p => (p.1, some p.2.freeze) else [])
def callRen (L Nw : List Nat) (j : Nat) : Nat := if j < L.length then L.getD j 0 else Nw.getD (j - L.length) 0

theorem Tr.sc {w : World} {F F' : Nat → Prop} {t : TV} {u : Value} (h : Tr w F t u) (hs : t.sc) : Tr w F' t u := by
  cases h with
  | int => exact .int _ _
  | bool => exact .bool _
  | nil => exact .nil
  | empty => exact hs.elim
  | tree => exact hs.elim

section
variable {P : Program} {C : Ctx} {w w' : World} {η η1 : Nat → Value} {F F1 : Nat → Prop} {sl : Sl} {hp : Hp} {N : Nat} {a : Act} {o : Oper} {ev : Operand → SV} {t : TypeId} {y : Ty}

theorem getElem?_zip_some {α β : Type} {l : List α} {m : List β} {i : Nat} {x : α} {y : β} (h1 : l[i]? = some x) (h2 : m[i]? = some y) : (l.zip m)[i]? = some (x, y) := by
  rw [List.getElem?_zip_eq_some]; exact ⟨h1, h2⟩

theorem after_core (hR : Reps C w η F sl hp N a) {S : List (Nat × Blk)} {L : List Nat} {B B' : List (TypeId × List TV)} {E : List Blk} {Nw : List Nat} (hL : Lend hp S L B) {gs : List Nat} (hgs : gs.length = B.length)
    (hgL : ∀ (j b : Nat), L[j]? = some b → ∃ g, gs[j]? = some g ∧ η b = .slice (some ⟨g, 0, none⟩) 1 1) (h1 : HRep ⟨w, gs, fun g => F g ∨ inS η S g⟩ w' η1 F1 (afterHp B' E)) (hBl : B'.map (·.1) = B.map (·.1))
    (frz : Bool) (hnd : (L ++ Nw ++ S.map (·.1)).Nodup) (hNl : Nw.length = E.length) (hnew : ∀ b ∈ Nw, hp b = none ∧ UnmentB hp b ∧ UnmentS sl b ∧ C.bs.length ≤ b) (hE : ∀ k ∈ E, k.exp)
    (hsc : frz = false → (∀ x ∈ B', ∀ t ∈ x.2, t.sc) ∧ ∀ k ∈ E, k.sc) :
    HRep C w' (fun b => if b ∈ Nw then η1 (B.length + Nw.idxOf b) else η b) (fun g => F g ∨ (frz = true ∧ (inS η S g ∨ F1 g))) (hpUpd hp (callUpd frz S L B' Nw E)) ∧ (∀ g, F g → w'.heap[g]? = w.heap[g]?) ∧
      (∀ c, UnmentS sl c ∨ Stays η (fun b => if b ∈ Nw then η1 (B.length + Nw.idxOf b) else η b) hp (hpUpd hp (callUpd frz S L B' Nw E)) c) ∧
      (∀ j, j < B.length + E.length → Renames (callRen L Nw) η1 (fun b => if b ∈ Nw then η1 (B.length + Nw.idxOf b) else η b) (afterHp B' E) (hpUpd hp (callUpd frz S L B' Nw E)) j) := by
  have hH := hR.heap
  have hF1 : ∀ g, F1 g → (F g ∨ inS η S g) ∨ w.heap.size ≤ g := h1.Fbd
  have hB'l : B'.length = B.length := by have := congrArg List.length hBl; simpa using this
  have hLl := hL.lenB
  have hnd1 : (L ++ Nw).Nodup := (List.nodup_append.1 hnd).1
  have hdisj : ∀ b, b ∈ L → b ∉ Nw := fun b hb hn => (List.nodup_append.1 hnd1).2.2 b hb b hn rfl
  have hdisjS : ∀ b, b ∈ L ++ Nw → b ∉ S.map (·.1) := fun b hb hn => (List.nodup_append.1 hnd).2.2 b hb b hn rfl
  have hNwnd : Nw.Nodup := (List.nodup_append.1 hnd1).2.1
  -- the keys
  have hkeys : (callUpd frz S L B' Nw E).map (·.1) = L ++ Nw ++ (if frz then S.map (·.1) else []) := by
    unfold callUpd
    rw [List.map_append, List.map_append, List.map_map, List.map_map]
    have e1 : (L.zip B').map ((·.1) ∘ fun p => (p.1, some (Blk.bx p.2.1 (p.2.2.map AV.v)))) = L := by
      have : ((·.1) ∘ fun p : Nat × (TypeId × List TV) => (p.1, some (Blk.bx p.2.1 (p.2.2.map AV.v)))) = Prod.fst := rfl
      rw [this, List.map_fst_zip (by omega)]
    have e2 : (Nw.zip E).map ((·.1) ∘ fun p => (p.1, some p.2)) = Nw := by
      have : ((·.1) ∘ fun p : Nat × Blk => (p.1, some p.2)) = Prod.fst := rfl
      rw [this, List.map_fst_zip (by omega)]
    rw [e1, e2]
    cases frz <;> simp
  have hnk : ((callUpd frz S L B' Nw E).map (·.1)).Nodup := by
    rw [hkeys]
    cases frz
    · simpa using hnd1
    · simpa using hnd
  have hpO : ∀ b, ¬ (b ∈ L ∨ b ∈ Nw ∨ (frz = true ∧ b ∈ S.map (·.1))) → hpUpd hp (callUpd frz S L B' Nw E) b = hp b := fun b hb => by
    refine hpUpd_other ?_
    rw [hkeys]
    intro hm
    rcases List.mem_append.1 hm with hm | hm
    · rcases List.mem_append.1 hm with hm | hm
      · exact hb (.inl hm)
      · exact hb (.inr (.inl hm))
    · cases frz
      · simp at hm
      · exact hb (.inr (.inr ⟨rfl, by simpa using hm⟩))
  have hpL : ∀ (j b : Nat) (x : TypeId × List TV), L[j]? = some b → B'[j]? = some x → hpUpd hp (callUpd frz S L B' Nw E) b = some (.bx x.1 (x.2.map .v)) := fun j b x hb hx =>
    hpUpd_mem hnk (by
      unfold callUpd
      rw [List.append_assoc]
      exact List.mem_append_left _ (List.mem_map.2 ⟨(b, x), List.mem_of_getElem? (getElem?_zip_some hb hx), rfl⟩))
  have hpN : ∀ (i b : Nat) (k : Blk), Nw[i]? = some b → E[i]? = some k → hpUpd hp (callUpd frz S L B' Nw E) b = some k := fun i b k hb hk =>
    hpUpd_mem hnk (by
      unfold callUpd
      rw [List.append_assoc]
      exact List.mem_append_right _ (List.mem_append_left _ (List.mem_map.2 ⟨(b, k), List.mem_of_getElem? (getElem?_zip_some hb hk), rfl⟩)))
  have hpS : frz = true → ∀ p ∈ S, hpUpd hp (callUpd frz S L B' Nw E) p.1 = some p.2.freeze := fun hf p hp' =>
    hpUpd_mem hnk (by
      unfold callUpd
      rw [if_pos hf]
      exact List.mem_append_right _ (List.mem_map.2 ⟨p, hp', rfl⟩))
  have hLat : ∀ b, b ∈ L → ∃ (j g : Nat) (e : TypeId) (ts ts' : List TV), L[j]? = some b ∧ gs[j]? = some g ∧ η b = .slice (some ⟨g, 0, none⟩) 1 1 ∧ B[j]? = some (e, ts) ∧ B'[j]? = some (e, ts') ∧ hp b = some (.bx e (ts.map .v)) ∧ hpUpd hp (callUpd frz S L B' Nw E) b = some (.bx e (ts'.map .v)) := fun b hb => by
    obtain ⟨j, hj⟩ := List.mem_iff_getElem?.1 hb
    obtain ⟨g, h2, h3⟩ := hgL j b hj
    have hjB : j < B.length := by rw [← hLl]; exact (List.getElem?_eq_some_iff.1 hj).1
    have hjB' : j < B'.length := by omega
    have hee : (B'[j]).1 = (B[j]).1 := by
      have := congrArg (·[j]?) hBl
      simpa [List.getElem?_map, List.getElem?_eq_getElem hjB, List.getElem?_eq_getElem hjB'] using this
    refine ⟨j, g, (B[j]).1, (B[j]).2, (B'[j]).2, hj, h2, h3, List.getElem?_eq_getElem hjB, ?_, hL.lent j b _ hj (List.getElem?_eq_getElem hjB), ?_⟩
    · rw [← hee]; exact List.getElem?_eq_getElem hjB'
    · have := hpL j b B'[j] hj (List.getElem?_eq_getElem hjB')
      rw [hee] at this; exact this
  have hNat : ∀ b, b ∈ Nw → ∃ (i : Nat) (k : Blk), Nw[i]? = some b ∧ Nw.idxOf b = i ∧ E[i]? = some k ∧ afterHp B' E (B.length + i) = some k ∧ hpUpd hp (callUpd frz S L B' Nw E) b = some k ∧ k.exp := fun b hb => by
    have hlt : Nw.idxOf b < Nw.length := List.idxOf_lt_length_iff.2 hb
    have hg : Nw[Nw.idxOf b]? = some b := by rw [List.getElem?_eq_getElem hlt, List.getElem_idxOf]
    have hEl : Nw.idxOf b < E.length := by omega
    refine ⟨Nw.idxOf b, E[Nw.idxOf b], hg, rfl, List.getElem?_eq_getElem hEl, ?_, hpN _ b _ hg (List.getElem?_eq_getElem hEl), hE _ (List.getElem_mem hEl)⟩
    unfold afterHp
    rw [if_neg (by omega), show B.length + Nw.idxOf b - B'.length = Nw.idxOf b by omega, List.getElem?_eq_getElem hEl]
  have hafterL : ∀ (j : Nat) (e : TypeId) (ts : List TV), B'[j]? = some (e, ts) → afterHp B' E j = some (.bx e (ts.map .v)) := fun j e ts h => by
    unfold afterHp
    rw [if_pos (List.getElem?_eq_some_iff.1 h).1]
    unfold lentHp
    rw [h]; rfl
  have hη1L : ∀ (j g : Nat), gs[j]? = some g → η1 j = .slice (some ⟨g, 0, none⟩) 1 1 := fun j g hg => by
    obtain ⟨⟨e, cells, h2⟩, h3⟩ := h1.bor j g hg
    obtain ⟨g', h4⟩ := h1.bxOwn h2
    rw [h4] at h3 ⊢
    simp only [Value.ownBlock, Option.some.injEq] at h3
    rw [h3]
  have hlive : ∀ k : Blk, k.exp → k.live = true := fun k hk => by cases k <;> simp_all [Blk.exp, Blk.live]
  have hNown : ∀ (i : Nat) (k : Blk) (g : Nat), E[i]? = some k → afterHp B' E (B.length + i) = some k → (η1 (B.length + i)).ownBlock = some g → w.heap.size ≤ g := fun i k g hi hk hg => by
    rcases h1.fresh _ k g hk (hlive k (hE k (List.mem_of_getElem? hi))) hg with h2 | h2
    · exact h2.1
    · have := (List.getElem?_eq_some_iff.1 h2).1
      rw [hgs] at this
      omega
  have hFc : ∀ g, F g → w'.heap[g]? = w.heap[g]? := fun g hg => h1.keep.block g (hH.Flt g hg) fun hm => by
    obtain ⟨j, hj⟩ := List.mem_iff_getElem?.1 hm
    have hjl : j < L.length := by rw [hLl, ← hgs]; exact (List.getElem?_eq_some_iff.1 hj).1
    obtain ⟨g', h2, h3⟩ := hgL j _ (List.getElem?_eq_getElem hjl)
    rw [hj] at h2
    injection h2 with h2
    subst h2
    obtain ⟨_, _, _, _, _, _, _, _, _, _, h4, _⟩ := hLat _ (List.getElem_mem hjl)
    exact hH.liveF _ _ g h4 rfl (by rw [h3]; rfl) hg
  have hηO : ∀ b, b ∉ Nw → (fun b => if b ∈ Nw then η1 (B.length + Nw.idxOf b) else η b) b = η b := fun b hb => if_neg hb
  have hηN : ∀ b, b ∈ Nw → (fun b => if b ∈ Nw then η1 (B.length + Nw.idxOf b) else η b) b = η1 (B.length + Nw.idxOf b) := fun b hb => if_pos hb
  generalize hη' : (fun b => if b ∈ Nw then η1 (B.length + Nw.idxOf b) else η b) = η' at hηO hηN ⊢
  have hSat : ∀ b, b ∈ S.map (·.1) → ∃ e sz f rows, (b, Blk.sl e sz f rows) ∈ S ∧ hp b = some (.sl e sz f rows) := fun b hb => by
    obtain ⟨p, hp1, rfl⟩ := List.mem_map.1 hb
    obtain ⟨h2, e, sz, f, rows, h3⟩ := hL.snap p hp1
    obtain ⟨p1, p2⟩ := p
    dsimp only at h3 h2
    subst h3
    exact ⟨e, sz, f, rows, hp1, h2⟩
  have hSsz : ∀ g, inS η S g → g < w.heap.size := fun g ⟨p, hp1, hp2⟩ => hH.lt (hL.snap p hp1).1 hp2
  have hst : ∀ c, c ∉ Nw → Stays η η' hp (hpUpd hp (callUpd frz S L B' Nw E)) c := fun c hc => by
    by_cases hcL : c ∈ L
    · obtain ⟨j, g, e, ts, ts', _, _, _, _, _, h6, h7⟩ := hLat c hcL
      exact .inr (.inr ⟨e, _, _, h6, h7, hηO c hc⟩)
    · by_cases hcS : frz = true ∧ c ∈ S.map (·.1)
      · obtain ⟨e, sz, f, rows, h2, h3⟩ := hSat c hcS.2
        exact .inr (.inl ⟨e, sz, f, rows, true, rows, h3, hpS hcS.1 _ h2, hηO c hc⟩)
      · exact Stays.of_same (hpO c (fun h => h.elim hcL fun h => h.elim hc hcS)) (hηO c hc)
  have hF1lent : ∀ b g, b ∈ L → (η b).ownBlock = some g → ¬ (F g ∨ (frz = true ∧ (inS η S g ∨ F1 g))) := fun b g hb hg hF => by
    obtain ⟨j, g', e, ts, ts', h2, h3, h4, h5, h6, h7, _⟩ := hLat b hb
    rw [h4] at hg
    simp only [Value.ownBlock, Option.some.injEq] at hg
    subst hg
    rcases hF with hF | ⟨_, hF | hF⟩
    · exact hH.liveF b _ g' h7 rfl (by rw [h4]; rfl) hF
    · obtain ⟨p, hp1, hp2⟩ := hF
      obtain ⟨h8, e', sz, f, rows, h9⟩ := hL.snap p hp1
      rw [h9] at h8
      cases f with
      | true => exact hH.liveF b _ g' h7 rfl (by rw [h4]; rfl) (hH.frzF p.1 _ g' h8 rfl hp2)
      | false =>
        have hne : b ≠ p.1 := by rintro rfl; rw [h7] at h8; cases h8
        exact hH.sep b p.1 _ _ g' h7 h8 hne rfl rfl (by rw [h4]; rfl) hp2
    · exact h1.liveF j _ g' (hafterL j e ts' h6) rfl (by rw [hη1L j g' h3]; rfl) hF
  refine ⟨?_, hFc, fun c => ?_, fun j hj => ?_⟩
  · refine hH.step (fun b => b ∈ L ∨ b ∈ Nw ∨ (frz = true ∧ b ∈ S.map (·.1))) (fun b hb => ⟨hpO b hb, hηO b fun h => hb (.inr (.inl h))⟩) (fun b k g hb hk hl hg => ?_) (fun _ h => .inl h) hFc (fun c => ?_) (fun b k hb hk => ?_) (fun b b' k k' g hb hk hk' hne hl hl' hg => ?_)
      (fun b k g hk hl hg hF => ?_) (fun b k g hb hk hl hg => ?_) (fun b k g hb hk hl hg => ?_) (fun g hg => ?_) (fun b k g hb hk hl hg => ?_) (fun j g hj hg => ?_) ?_ ?_
    · refine h1.keep.block g (hH.lt hk hg) fun hm => ?_
      obtain ⟨j, hj⟩ := List.mem_iff_getElem?.1 hm
      have hjl : j < L.length := by rw [hLl, ← hgs]; exact (List.getElem?_eq_some_iff.1 hj).1
      obtain ⟨g', h2, h3⟩ := hgL j _ (List.getElem?_eq_getElem hjl)
      rw [hj] at h2
      injection h2 with h2
      subst h2
      obtain ⟨_, _, _, _, _, _, _, _, _, _, h4, _⟩ := hLat _ (List.getElem_mem hjl)
      have hne : b ≠ L[j] := by rintro rfl; exact hb (.inl (List.getElem_mem hjl))
      exact hH.sep b _ k _ g hk h4 hne hl rfl hg (by rw [h3]; rfl)
    · by_cases hc : c ∈ Nw
      · exact .inl (hnew c hc).2.1
      · exact .inr (hst c hc)
    · rcases hb with hb | hb | ⟨hf, hb⟩
      · obtain ⟨j, g, e, ts, ts', h2, h3, h4, h5, h6, h7, h8⟩ := hLat b hb
        rw [h8] at hk
        injection hk with hk
        subst hk
        obtain ⟨g', cs, h9, h10, h11⟩ := h1.blocks j _ (hafterL j e ts' h6)
        rw [hη1L j g h3] at h9
        refine ⟨g', cs, by rw [hηO b (hdisj b hb), h4]; exact h9, h10, csRep_closed (by simpa using h11.1) fun i x u hx hu => ?_⟩
        have hxu : Tr w' F1 x u := h11.2.2 i (.v x) u (by rw [List.getElem?_map, hx]; rfl) hu
        cases frz with
        | true => exact hxu.keep (fun g hg => .inr ⟨rfl, .inr hg⟩) fun _ _ _ _ h => h
        | false => exact hxu.sc ((hsc rfl).1 _ (List.mem_of_getElem? h6) x (List.mem_of_getElem? hx))
      · obtain ⟨i, k', h2, h3, h4, h5, h6, h7⟩ := hNat b hb
        rw [h6] at hk
        injection hk with hk
        subst hk
        have h8 := h1.blocks _ _ h5
        have hηb : η' b = η1 (B.length + i) := by rw [hηN b hb, h3]
        cases k' with
        | sl e sz f rows =>
          obtain ⟨cells, q1, q2, q3⟩ := h8
          refine ⟨cells, by rw [hηb]; exact q1, q2, fun i j row x hi hj => ?_⟩
          obtain ⟨u, q4, q5⟩ := q3 i j row x hi hj
          refine ⟨u, q4, ?_⟩
          cases frz with
          | true => exact q5.keep (fun g hg => .inr ⟨rfl, .inr hg⟩) fun _ _ _ _ h => h
          | false => exact q5.sc ((hsc rfl).2 _ (List.mem_of_getElem? h4) row (List.mem_of_getElem? hi) x (List.mem_of_getElem? hj))
        | bx e cells =>
          obtain ⟨ts, rfl⟩ := h7
          obtain ⟨g, cs, q1, q2, q3⟩ := h8
          refine ⟨g, cs, by rw [hηb]; exact q1, q2, csRep_closed (by simpa using q3.1) fun i x u hx hu => ?_⟩
          have hxu : Tr w' F1 x u := q3.2.2 i (.v x) u (by rw [List.getElem?_map, hx]; rfl) hu
          cases frz with
          | true => exact hxu.keep (fun g hg => .inr ⟨rfl, .inr hg⟩) fun _ _ _ _ h => h
          | false =>
            obtain ⟨t, q4, q5⟩ := (hsc rfl).2 _ (List.mem_of_getElem? h4) (.v x) (List.mem_map.2 ⟨x, List.mem_of_getElem? hx, rfl⟩)
            injection q4 with q4
            subst q4
            exact hxu.sc q5
      · obtain ⟨e, sz, f, rows, h2, h3⟩ := hSat b hb
        have h4 := hpS hf _ h2
        dsimp only at h4
        rw [h4] at hk
        injection hk with hk
        subst hk
        obtain ⟨cells, q1, q2, q3⟩ := hH.blocks b _ h3
        have hbN : b ∉ Nw := fun h => hdisjS b (List.mem_append_right _ h) hb
        have hbk : ∀ g, (η b).ownBlock = some g → w'.heap[g]? = w.heap[g]? := fun g hg => h1.keep.block g (hH.lt h3 hg) fun hm => by
          obtain ⟨j, hj⟩ := List.mem_iff_getElem?.1 hm
          have hjl : j < L.length := by rw [hLl, ← hgs]; exact (List.getElem?_eq_some_iff.1 hj).1
          obtain ⟨g', q4, q5⟩ := hgL j _ (List.getElem?_eq_getElem hjl)
          rw [hj] at q4
          injection q4 with q4
          subst q4
          exact hF1lent _ g (List.getElem_mem hjl) (by rw [q5]; rfl) (.inr ⟨hf, .inl ⟨_, h2, hg⟩⟩)
        exact BRep.keep (k := .sl e sz true rows) (η := η) (hp := hp) ⟨cells, q1, q2, q3⟩ (hηO b hbN) hbk (fun _ h => .inl h) hFc hH.oneη (fun _ _ h => by cases h)
    · rcases hb with hb | hb | ⟨hf, hb⟩
      · rw [hηO b (hdisj b hb)] at hg
        obtain ⟨_, _, _, _, _, _, _, _, _, _, h4, _⟩ := hLat b hb
        by_cases hbN : b' ∈ Nw
        · obtain ⟨i, k2, _, h6, h7, h8, h9, _⟩ := hNat b' hbN
          rw [hηN b' hbN, h6]
          intro hg'
          have := hNown i k2 g h7 h8 hg'
          have := hH.lt h4 hg
          omega
        · rw [hηO b' hbN]
          by_cases hbL : b' ∈ L
          · obtain ⟨_, _, _, _, _, _, _, _, _, _, h5, _⟩ := hLat b' hbL
            exact hH.sep b b' _ _ g h4 h5 hne rfl rfl hg
          · by_cases hbS : frz = true ∧ b' ∈ S.map (·.1)
            · obtain ⟨e, sz, f, rows, h5, _⟩ := hSat b' hbS.2
              rw [hpS hbS.1 _ h5] at hk'
              injection hk' with hk'
              subst hk'
              cases hl'
            · rw [hpO b' (fun h => h.elim hbL fun h => h.elim hbN hbS)] at hk'
              exact hH.sep b b' _ _ g h4 hk' hne rfl hl' hg
      · obtain ⟨i, k2, h5, h6, h7, h8, h9, h10⟩ := hNat b hb
        rw [hηN b hb, h6] at hg
        have hge := hNown i k2 g h7 h8 hg
        by_cases hbN : b' ∈ Nw
        · obtain ⟨i', k3, h5', h6', h7', h8', h9', h10'⟩ := hNat b' hbN
          rw [hηN b' hbN, h6']
          have hii : B.length + i ≠ B.length + i' := by
            intro h
            have : i = i' := by omega
            subst this
            rw [h5] at h5'
            injection h5' with h5'
            exact hne h5'
          exact h1.sep _ _ k2 k3 g h8 h8' hii (hlive _ h10) (hlive _ h10') hg
        · rw [hηO b' hbN]
          intro hg'
          have hex : ∃ k4, hp b' = some k4 := by
            rcases hst b' hbN with h | ⟨e, sz, f, rows, _, _, h, _⟩ | ⟨e, cs, _, h, _⟩
            · rw [h] at hk'; cases hk'
            · exact ⟨_, h⟩
            · exact ⟨_, h⟩
          obtain ⟨k4, hk4⟩ := hex
          have := hH.lt hk4 hg'
          omega
      · obtain ⟨e, sz, f, rows, h2, h3⟩ := hSat b hb
        rw [hpS hf _ h2] at hk
        injection hk with hk
        subst hk
        cases hl
    · by_cases hbN : b ∈ Nw
      · obtain ⟨i, k2, h5, h6, h7, h8, h9, h10⟩ := hNat b hbN
        rw [hηN b hbN, h6] at hg
        have hge := hNown i k2 g h7 h8 hg
        rcases hF with hF | ⟨_, hF | hF⟩
        · exact .inl hF
        · have := hSsz g hF; omega
        · exact (h1.liveF _ k2 g h8 (hlive _ h10) hg hF).elim
      · rw [hηO b hbN] at hg
        by_cases hbL : b ∈ L
        · exact (hF1lent b g hbL hg hF).elim
        · by_cases hbS : frz = true ∧ b ∈ S.map (·.1)
          · obtain ⟨e, sz, f, rows, h5, _⟩ := hSat b hbS.2
            rw [hpS hbS.1 _ h5] at hk
            injection hk with hk
            subst hk
            cases hl
          · rw [hpO b (fun h => h.elim hbL fun h => h.elim hbN hbS)] at hk
            have hlt := hH.lt hk hg
            have hnS : ¬ inS η S g := fun ⟨p, hp1, hp2⟩ => by
              obtain ⟨h8, e', sz, f, rows, h9⟩ := hL.snap p hp1
              rw [h9] at h8
              cases f with
              | true => exact hH.liveF b _ g hk hl hg (hH.frzF p.1 _ g h8 rfl hp2)
              | false =>
                by_cases hbp : b = p.1
                · subst hbp
                  cases frz with
                  | true => exact hbS ⟨rfl, List.mem_map.2 ⟨p, hp1, rfl⟩⟩
                  | false =>
                    rcases hF with hF | ⟨hF, _⟩
                    · exact hH.liveF _ _ g hk hl hg hF
                    · cases hF
                · exact hH.sep b p.1 _ _ g hk h8 hbp hl rfl hg hp2
            rcases hF with hF | ⟨_, hF | hF⟩
            · exact .inl hF
            · exact (hnS hF).elim
            · rcases hF1 g hF with (h2 | h2) | h2
              · exact .inl h2
              · exact (hnS h2).elim
              · omega
    · rcases hb with hb | hb | ⟨hf, hb⟩
      · rw [hηO b (hdisj b hb)] at hg
        exact hF1lent b g hb hg
      · obtain ⟨i, k2, h5, h6, h7, h8, h9, h10⟩ := hNat b hb
        rw [hηN b hb, h6] at hg
        have hge := hNown i k2 g h7 h8 hg
        rintro (hF | ⟨_, hF | hF⟩)
        · have := hH.Flt g hF; omega
        · have := hSsz g hF; omega
        · exact h1.liveF _ k2 g h8 (hlive _ h10) hg hF
      · obtain ⟨e, sz, f, rows, h2, h3⟩ := hSat b hb
        rw [hpS hf _ h2] at hk
        injection hk with hk
        subst hk
        cases hl
    · rcases hb with hb | hb | ⟨hf, hb⟩
      · obtain ⟨_, _, _, _, _, _, _, _, _, _, _, h8⟩ := hLat b hb
        rw [h8] at hk
        injection hk with hk
        subst hk
        cases hl
      · obtain ⟨i, k2, h5, h6, h7, h8, h9, h10⟩ := hNat b hb
        rw [h9] at hk
        injection hk with hk
        subst hk
        rw [hlive _ h10] at hl
        cases hl
      · obtain ⟨e, sz, f, rows, h2, h3⟩ := hSat b hb
        have hbN : b ∉ Nw := fun h => hdisjS b (List.mem_append_right _ h) hb
        rw [hηO b hbN] at hg
        exact .inr ⟨hf, .inl ⟨_, h2, hg⟩⟩
    · rcases hg with hg | ⟨_, hg | hg⟩
      · exact Nat.lt_of_lt_of_le (hH.Flt g hg) h1.keep.size
      · exact Nat.lt_of_lt_of_le (hSsz g hg) h1.keep.size
      · exact h1.Flt g hg
    · rcases hb with hb | hb | ⟨hf, hb⟩
      · rw [hηO b (hdisj b hb)] at hg
        obtain ⟨_, _, _, _, _, _, _, _, _, _, h4, _⟩ := hLat b hb
        exact hH.fresh b _ g h4 rfl hg
      · obtain ⟨i, k2, h5, h6, h7, h8, h9, h10⟩ := hNat b hb
        rw [hηN b hb, h6] at hg
        exact .inl ⟨Nat.le_trans hH.keep.size (hNown i k2 g h7 h8 hg), (hnew b hb).2.2.2⟩
      · obtain ⟨e, sz, f, rows, h2, h3⟩ := hSat b hb
        rw [hpS hf _ h2] at hk
        injection hk with hk
        subst hk
        cases hl
    · obtain ⟨⟨e0, cells0, h2⟩, h3⟩ := hH.bor j g hg
      rcases hj with hb | hb | ⟨hf, hb⟩
      · obtain ⟨_, _, _, _, _, _, _, _, _, _, h4, h8⟩ := hLat j hb
        exact ⟨⟨_, _, h8⟩, by rw [hηO j (hdisj j hb)]; exact h3⟩
      · have := (hnew j hb).1
        rw [h2] at this
        cases this
      · obtain ⟨e, sz, f, rows, h4, h5⟩ := hSat j hb
        rw [h2] at h5
        cases h5
    · refine ⟨h1.keep.os.trans hH.keep.os, h1.keep.tape.trans hH.keep.tape, h1.keep.output.trans hH.keep.output, Nat.le_trans hH.keep.size h1.keep.size, fun k hk hn => (h1.keep.block k (Nat.lt_of_lt_of_le hk hH.keep.size) fun hm => ?_).trans (hH.keep.block k hk hn)⟩
      obtain ⟨j, hj⟩ := List.mem_iff_getElem?.1 hm
      have hjl : j < L.length := by rw [hLl, ← hgs]; exact (List.getElem?_eq_some_iff.1 hj).1
      obtain ⟨g', h2, h3⟩ := hgL j _ (List.getElem?_eq_getElem hjl)
      dsimp only at hj
      rw [hj] at h2
      injection h2 with h2
      subst h2
      obtain ⟨_, _, _, _, _, _, _, _, _, _, h4, _⟩ := hLat _ (List.getElem_mem hjl)
      rcases hH.fresh _ _ k h4 rfl (by rw [h3]; rfl) with h5 | h5
      · omega
      · exact hn (List.mem_of_getElem? h5)
    · have hSb : ∀ g, inS η S g → C.F0 g ∨ C.W.heap.size ≤ g := fun g ⟨p, hp1, hp2⟩ => by
        obtain ⟨h2, e, sz, f, rows, h3⟩ := hL.snap p hp1
        rw [h3] at h2
        cases f with
        | true => exact hH.Fbd g (hH.frzF p.1 _ g h2 rfl hp2)
        | false =>
          rcases hH.fresh p.1 _ g h2 rfl hp2 with h4 | h4
          · exact .inr h4.1
          · obtain ⟨⟨e', cells, h5⟩, _⟩ := hH.bor p.1 g h4
            rw [h2] at h5
            cases h5
      intro g hg
      rcases hg with hg | ⟨_, hg | hg⟩
      · exact hH.Fbd g hg
      · exact hSb g hg
      · rcases hF1 g hg with (h2 | h2) | h2
        · exact hH.Fbd g h2
        · exact hSb g h2
        · exact .inr (Nat.le_trans hH.keep.size h2)
  · by_cases hc : c ∈ Nw
    · exact .inl (hnew c hc).2.2.1
    · exact .inr (hst c hc)
  · by_cases hjB : j < B.length
    · have hjl : j < L.length := by omega
      obtain ⟨j', g, e, ts, ts', h2, h3, h4, h5, h6, h7, h8⟩ := hLat _ (List.getElem_mem hjl)
      have hjj : j' = j := by
        obtain ⟨q1, q2⟩ := List.getElem?_eq_some_iff.1 h2
        exact (List.getElem_inj hL.nodup).1 q2
      subst hjj
      have hren : callRen L Nw j' = L[j'] := by unfold callRen; rw [if_pos hjl, List.getD_eq_getElem?_getD, List.getElem?_eq_getElem hjl]; rfl
      refine ⟨by rw [hafterL j' e ts' h6]; rfl, ⟨_, by rw [hren]; exact h8, by rw [hafterL j' e ts' h6]; exact ⟨_, _, rfl⟩⟩, ?_⟩
      rw [hren, hηO _ (hdisj _ (List.getElem_mem hjl)), h4, hη1L j' g h3]
    · have hjl : ¬ j < L.length := by omega
      have hjN : j - L.length < Nw.length := by omega
      have hren : callRen L Nw j = Nw[j - L.length] := by unfold callRen; rw [if_neg hjl, List.getD_eq_getElem?_getD, List.getElem?_eq_getElem hjN]; rfl
      obtain ⟨i, k, h2, h3, h4, h5, h6, h7⟩ := hNat _ (List.getElem_mem hjN)
      have hii : i = j - L.length := by rw [← h3]; exact hNwnd.idxOf_getElem _ hjN
      subst hii
      have hjj : B.length + (j - L.length) = j := by omega
      rw [hjj] at h5
      refine ⟨by rw [h5]; rfl, ⟨k, by rw [hren]; exact h6, ?_⟩, ?_⟩
      · rw [h5]
        cases k with
        | sl e sz f rows => exact ⟨_, _, _, rfl⟩
        | bx e cells => exact ⟨_, _, rfl⟩
      · rw [hren, hηN _ (List.getElem_mem hjN), h3, hjj]
end
#print axioms after_core
end Go.Proofs.YtjfkdjlmajfljaaDoor
