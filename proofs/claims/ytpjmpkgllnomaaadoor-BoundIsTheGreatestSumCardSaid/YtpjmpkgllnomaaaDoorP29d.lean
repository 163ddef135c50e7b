/- All ways from function 0 to functions that call none; the law BoundPaths. -/
import Derived.Test.YtpjmpkgllnomaaaDoorP29b
set_option linter.unusedVariables false
set_option linter.unusedSimpArgs false
namespace Go.Proofs.YtpjmpkgllnomaaaDoor.Q
/-- The ways that begin with a way (x: its last function), in order. -/
def waysS (g : List (List Int)) : Nat → List Int → Int → List (List Int)
  | 0, _, _ => []
  | d + 1, w, x => if atD g x = [] then [w] else (atD g x).flatMap fun j => waysS g d (w ++ [j]) j
def waysO (g : List (List Int)) (o : List Int) (w : List Int) (x : Int) : List (List Int) := waysS g (o.idxOf x + 1) w x
theorem flatMap_congr29 {α β : Type} {f h : α → List β} : ∀ {l : List α}, (∀ j ∈ l, f j = h j) → l.flatMap f = l.flatMap h
  | [], _ => rfl
  | a :: r, q => by
    rw [List.flatMap_cons, List.flatMap_cons, q a List.mem_cons_self, flatMap_congr29 fun j hj => q j (List.mem_cons_of_mem _ hj)]
theorem waysS_stable {g : List (List Int)} {o : List Int} (hg : GrP g) (ho : TopoP g o) (d : Nat) : ∀ (w : List Int) (x : Int), inN x g.length → o.idxOf x < d → waysS g d w x = waysS g (o.idxOf x + 1) w x := by
  induction d using Nat.strongRecOn with
  | ind d ih =>
    intro w x hx hd
    obtain ⟨e, rfl⟩ : ∃ e, d = e + 1 := ⟨d - 1, by omega⟩
    show (if atD g x = [] then [w] else _) = (if atD g x = [] then [w] else _)
    by_cases h0 : atD g x = []
    · rw [if_pos h0, if_pos h0]
    rw [if_neg h0, if_neg h0]
    refine flatMap_congr29 fun j hj => ?_
    have hji := ho.idx hx hj
    have hjr := hg.rng x hx j hj
    rw [ih e (by omega) _ j hjr (by omega), ih (o.idxOf x) (by omega) _ j hjr hji]
theorem waysO_leaf {g : List (List Int)} {o w : List Int} {x : Int} (h : atD g x = []) : waysO g o w x = [w] := by
  show (if atD g x = [] then [w] else _) = [w]
  rw [if_pos h]
theorem waysO_inner {g : List (List Int)} {o w : List Int} {x : Int} (hg : GrP g) (ho : TopoP g o) (hx : inN x g.length) (h : ¬ atD g x = []) : waysO g o w x = (atD g x).flatMap fun j => waysO g o (w ++ [j]) j := by
  show (if atD g x = [] then [w] else _) = _
  rw [if_neg h]
  exact flatMap_congr29 fun j hj => waysS_stable hg ho _ _ j (hg.rng x hx j hj) (ho.idx hx hj)
theorem waysS_len {g : List (List Int)} : ∀ (d : Nat) (w : List Int) (x : Int), ∀ y ∈ waysS g d w x, y.length ≤ w.length + d
  | 0, _, _, y, hy => by cases hy
  | d + 1, w, x, y, hy => by
    have hy' : y ∈ (if atD g x = [] then [w] else (atD g x).flatMap fun j => waysS g d (w ++ [j]) j) := hy
    split at hy'
    · rw [one_mem hy']; omega
    · obtain ⟨j, _, hj⟩ := List.mem_flatMap.1 hy'
      have := waysS_len d _ j y hj
      simp only [List.length_append, List.length_cons, List.length_nil] at this
      omega
/-- Cut off behind the first that is too many. -/
def cut29 (m : Int) (l : List (List Int)) : List (List Int) := l.take (m.toNat + 1)
theorem cut29_all {m : Int} {l : List (List Int)} (h0 : 0 ≤ m) (h : (l.length : Int) ≤ m + 1) : cut29 m l = l := List.take_of_length_le (by omega)
theorem cut29_more {m : Int} {a b : List (List Int)} (h0 : 0 ≤ m) (h : m < (a.length : Int)) : cut29 m (a ++ b) = cut29 m a := List.take_append_of_le_length (by omega)
theorem row_split {α : Type} [Inhabited α] {l : List α} {k : Int} (h : 0 ≤ k ∧ k < (l.length : Int)) : l = l.take (k + 1).toNat ++ l.drop (k + 1).toNat := (List.take_append_drop _ _).symm
section
variable {g : List (List Int)} {o : List Int} {most : Int}
theorem visit_at_sp (hg : GrP g) (ho : TopoP g o) (hm : 1 ≤ most ∧ most ≤ 4096) : ∀ (depth : Nat) (w0 : List Int) (x : Int) (out : List (List Int)), inN x g.length → o.idxOf x < depth → w0.length + o.idxOf x ≤ 200 → (out.length : Int) ≤ most →
    WP (bound_Paths_1_at depth (w0 ++ [x]) g out most) fun r => r = (decide (((out ++ waysO g o (w0 ++ [x]) x).length : Int) ≤ most), cut29 most (out ++ waysO g o (w0 ++ [x]) x))
  | 0, _, _, _, _, h, _, _ => by omega
  | depth + 1, w0, x, out, hx, hd, hw, hout => by
    have hl : (((w0 ++ [x]).length : Nat) : Int) - 1 = (w0.length : Int) := by simp
    have hat : atD (w0 ++ [x]) (w0.length : Int) = x := atD_last rfl
    have hll : ((w0 ++ [x]).length : Int) = (w0.length : Int) + 1 := by simp
    have hln : (w0 ++ [x]).length = w0.length + 1 := by simp
    have hrow := (hg.row x hx).length
    show WP (bound_Paths_1_body (bound_Paths_1_at depth) (w0 ++ [x]) g out most) _
    unfold bound_Paths_1_body
    simp only [hl, hat]
    refine WP.chk ⟨by omega, by omega⟩ fun _ => WP.chk ⟨by omega, by omega⟩ fun _ => WP.chk hx fun _ => ?_
    refine WP.bif (fun wh => ?_) (fun wh => ?_)
    · have h0 : ((atD g x).length : Int) = 0 := of_decide_eq_true wh
      have h0' : atD g x = [] := List.length_eq_zero_iff.1 (by omega)
      refine WP.chk (by simp only [List.length_cons, List.length_nil]; omega) fun _ => WP.ret ?_
      rw [waysO_leaf h0', cut29_all (by omega) (by simp; omega)]
    · have h0 : ¬ ((atD g x).length : Int) = 0 := of_decide_eq_false wh
      have h0' : ¬ atD g x = [] := fun h => h0 (by rw [h]; rfl)
      rw [waysO_inner hg ho hx h0']
      refine WP.loop (fun z => 0 ≤ z.1 ∧ z.1 ≤ (atD g x).length ∧ z.2 = out ++ ((atD g x).take z.1.toNat).flatMap (fun j => waysO g o (w0 ++ [x] ++ [j]) j) ∧ (z.2.length : Int) ≤ most) (fun z => (atD g x).length - z.1.toNat) ⟨Int.le_refl _, by dsimp only; omega, by simp, hout⟩ ?_
      rintro again ⟨k, own⟩ ⟨a1, a2, a3, a4⟩ ih
      dsimp only at a1 a2 a3 a4 ih ⊢
      refine WP.bif (fun wh => ?_) (fun wh => ?_)
      · have hk : k < ((atD g x).length : Int) := of_decide_eq_true wh
        have hki : inN k (atD g x).length := ⟨a1, hk⟩
        have hj := hg.rng x hx _ (atD_mem hki)
        have hji := ho.idx hx (atD_mem hki)
        have htk := take_atD hki
        have hsp := row_split hki
        refine WP.chk hki fun _ => WP.chk (by omega) fun _ => WP.chk ⟨by simp only [List.length_cons, List.length_nil]; omega, by omega, by simp⟩ fun _ => ?_
        generalize atD (atD g x) k = j at hj hji htk ⊢
        refine WP.call (visit_at_sp hg ho hm depth (w0 ++ [x]) j own hj (by omega) (by omega) a4) ?_
        rintro _ rfl
        dsimp only
        have hown : own ++ waysO g o (w0 ++ [x] ++ [j]) j = out ++ ((atD g x).take (k + 1).toNat).flatMap (fun j => waysO g o (w0 ++ [x] ++ [j]) j) := by
          rw [htk, List.flatMap_append, a3, List.append_assoc]
          simp
        refine WP.bif (fun wb => ?_) (fun wb => ?_)
        · have hb : ¬ (((own ++ waysO g o (w0 ++ [x] ++ [j]) j).length : Int) ≤ most) := by simpa using wb
          refine WP.ret ?_
          have htot : out ++ (atD g x).flatMap (fun j => waysO g o (w0 ++ [x] ++ [j]) j) = (own ++ waysO g o (w0 ++ [x] ++ [j]) j) ++ ((atD g x).drop (k + 1).toNat).flatMap (fun j => waysO g o (w0 ++ [x] ++ [j]) j) := by
            rw [hown, List.append_assoc, ← List.flatMap_append, ← hsp]
          rw [htot, cut29_more (a := own ++ waysO g o (w0 ++ [x] ++ [j]) j) (b := ((atD g x).drop (k + 1).toNat).flatMap (fun j => waysO g o (w0 ++ [x] ++ [j]) j)) (by omega) (by omega)]
          refine Prod.ext ?_ rfl
          show false = _
          symm
          rw [decide_eq_false_iff_not, List.length_append]
          omega
        · have hb : (((own ++ waysO g o (w0 ++ [x] ++ [j]) j).length : Int) ≤ most) := by simpa using wb
          refine WP.chk ⟨by omega, by omega⟩ fun _ => ih _ ⟨by dsimp only; omega, by dsimp only; omega, ?_, ?_⟩ (by dsimp only; omega)
          · dsimp only
            rw [cut29_all (by omega) (by omega), hown]
          · dsimp only
            rw [cut29_all (by omega) (by omega)]; exact hb
      · have hk : ¬ k < ((atD g x).length : Int) := of_decide_eq_false wh
        rw [take_all (by omega)] at a3
        refine WP.ret ?_
        rw [← a3, cut29_all (by omega) (by omega), decide_eq_true a4]
end
/-- What comes out. -/
def pathsR (g : List (List Int)) (most : Int) : List (List Int) × Int :=
  if checkG g = false ∨ most < 1 ∨ 4096 < most then ([], 4)
  else if ¬ (orderS g).2 = 0 then ([], (orderS g).2)
  else if most < ((waysO g (orderS g).1 [0] 0).length : Int) then ([], 3)
  else (waysO g (orderS g).1 [0] 0, 0)
theorem TopoP.small {g : List (List Int)} (hg : GrP g) {o : List Int} (ho : TopoP g o) (x : Int) : o.idxOf x ≤ 80 := by
  have h1 : o.idxOf x ≤ o.length := List.idxOf_le_length
  have := ho.len
  have := hg.len
  omega
theorem paths29_sp (g : List (List Int)) (most : Int) (hgl : g.length ≤ 1000000) : WP (bound_Paths g most) (· = pathsR g most) := by
  unfold bound_Paths
  refine WP.call (check27_sp g (by omega)) ?_
  rintro _ rfl
  refine WP.bif (fun wh => ?_) (fun wh => ?_)
  · have h : checkG g = false := by simpa using wh
    exact WP.ret (by unfold pathsR; rw [if_pos (.inl h)])
  have hc : checkG g = true := by simpa using wh
  have hg := checkG_iff.1 hc
  refine WP.bif (fun wh => ?_) (fun wh => ?_)
  · have h : most < 1 := of_decide_eq_true wh
    exact WP.ret (by unfold pathsR; rw [if_pos (.inr (.inl h))])
  have h1 : ¬ most < 1 := of_decide_eq_false wh
  refine WP.bif (fun wh => ?_) (fun wh => ?_)
  · have h : 4096 < most := of_decide_eq_true wh
    exact WP.ret (by unfold pathsR; rw [if_pos (.inr (.inr h))])
  have h2 : ¬ 4096 < most := of_decide_eq_false wh
  have hn : ¬ (checkG g = false ∨ most < 1 ∨ 4096 < most) := by
    rintro (h | h | h)
    · rw [hc] at h; cases h
    · exact h1 h
    · exact h2 h
  refine WP.call (order28_sp g hg) ?_
  rintro _ rfl
  refine WP.bif (fun wh => ?_) (fun wh => ?_)
  · have h : ¬ (orderS g).2 = 0 := by simpa using wh
    exact WP.ret (by unfold pathsR; rw [if_neg hn, if_pos h])
  have h : (orderS g).2 = 0 := by simpa using wh
  have hac : Acyc g := Classical.byContradiction fun q => by rw [orderS_cyc hg q] at h; cases h
  obtain ⟨_, ho⟩ := orderS_ok hg hac
  have h0 : inN 0 g.length := ⟨Int.le_refl 0, by have := hg.len.1; omega⟩
  have hi := ho.small hg 0
  refine WP.call (R := (· = (decide (((waysO g (orderS g).1 [0] 0).length : Int) ≤ most), cut29 most (waysO g (orderS g).1 [0] 0)))) ?_ ?_
  · unfold bound_Paths_1
    exact WP.fix ((orderS g).1.idxOf 0 + 1) (visit_at_sp hg ho ⟨by omega, by omega⟩ _ [] 0 [] h0 (Nat.lt_succ_self _) (by simp; omega) (by simp; omega))
  rintro _ rfl
  dsimp only
  refine WP.bif (fun wh => ?_) (fun wh => ?_)
  · have hb : ¬ (((waysO g (orderS g).1 [0] 0).length : Int) ≤ most) := by simpa using wh
    exact WP.ret (by unfold pathsR; rw [if_neg hn, if_neg (fun q => q h), if_pos (by omega)])
  · have hb : (((waysO g (orderS g).1 [0] 0).length : Int) ≤ most) := by simpa using wh
    exact WP.ret (by unfold pathsR; rw [if_neg hn, if_neg (fun q => q h), if_neg (by omega), cut29_all (by omega) (by omega)])
end Go.Proofs.YtpjmpkgllnomaaaDoor.Q
