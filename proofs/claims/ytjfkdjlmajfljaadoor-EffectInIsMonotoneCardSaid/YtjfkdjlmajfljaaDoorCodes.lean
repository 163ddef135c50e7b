/- What a call keeps; the list of choices; New, Left and Next. -/
import Derived.Test.YtjfkdjlmajfljaaDoorMem
import Derived.Test.YtjfkdjlmajfljaaDoorRows
import Derived.WalkLawsBesides
import Derived.Deep.QuietTactic
import Derived.BigQuiet
import Derived.Deep.RegionHeld3
import Derived.Deep.DeepCutAuto
namespace Go.Proofs.YtjfkdjlmajfljaaDoor
open Go.RowKit

/-- From w to w' the blocks of which K holds stay as they are; nothing goes. -/
structure Keeps (K : Nat → Prop) (w w' : World) : Prop where
  os : w'.os = w.os
  tape : w'.tape = w.tape
  output : w'.output = w.output
  size : w.heap.size ≤ w'.heap.size
  block : ∀ b, b < w.heap.size → K b → w'.heap[b]? = w.heap[b]?

section
variable {K K' : Nat → Prop} {a w w' : World}
theorem Keeps.refl (K : Nat → Prop) (w : World) : Keeps K w w := ⟨rfl, rfl, rfl, Nat.le_refl _, fun _ _ _ => rfl⟩
theorem Keeps.trans {b c : World} (h : Keeps K a b) (k : Keeps K b c) : Keeps K a c :=
  ⟨k.os.trans h.os, k.tape.trans h.tape, k.output.trans h.output, Nat.le_trans h.size k.size, fun i hi hK => (k.block i (Nat.lt_of_lt_of_le hi h.size) hK).trans (h.block i hi hK)⟩
theorem Keeps.mono (h : Keeps K w w') (hk : ∀ b, K' b → K b) : Keeps K' w w' := ⟨h.os, h.tape, h.output, h.size, fun b hb hK => h.block b hb (hk b hK)⟩
theorem Keeps.of_below (h : Below w.heap.size w w') : Keeps K w w' := ⟨h.os, h.tape, h.output, h.size, fun b hb _ => h.block b hb⟩
theorem Keeps.below {B : Nat} (h : Keeps K w w') (hk : ∀ b, b < B → K b) (hB : B ≤ w.heap.size) : Below B w w' := ⟨h.os, h.tape, h.output, h.size, fun b hb => h.block b (by omega) (hk b hb)⟩
theorem Keeps.drew (h : Keeps K a w) : Keeps K a w.drew := ⟨h.os, h.tape, h.output, h.size, h.block⟩
theorem Keeps.drewN (h : Keeps K a w) (n : Nat) : Keeps K a (w.drewN n) := ⟨h.os, h.tape, h.output, h.size, h.block⟩
theorem Keeps.alloc (h : Keeps K a w) (o : Obj) : Keeps K a (w.alloc o) :=
  ⟨h.os, h.tape, h.output, Nat.le_trans h.size (by simp), fun b hb hK => (Below.heap_alloc w o b (Nat.lt_of_lt_of_le hb h.size)).trans (h.block b hb hK)⟩
/-- A store into a block that need not be kept, or that is new. -/
theorem Keeps.setCell (h : Keeps K a w) {p : Addr} (hp : ¬ K p.block ∨ a.heap.size ≤ p.block) (u : Value) : Keeps K a (w.setCell p u) :=
  ⟨h.os, h.tape, h.output, by simpa [World.setCell] using h.size, fun b hb hK => (Below.heap_setCell w p u b (by
    rintro rfl
    rcases hp with hp | hp
    · exact hp hK
    · omega)).trans (h.block b hb hK)⟩
theorem Keeps.grown (h : Keeps K a w) {row : Option Nat} (hg : w.grownBy w' row) (hr : ∀ k, row = some k → ¬ K k ∨ a.heap.size ≤ k) : Keeps K a w' :=
  ⟨hg.os.trans h.os, hg.tape.trans h.tape, hg.output.trans h.output, Nat.le_trans h.size hg.size, fun b hb hK => (hg.block b (Nat.lt_of_lt_of_le hb h.size) (fun e => by
    rcases hr b e.symm with hh | hh
    · exact hh hK
    · omega)).trans (h.block b hb hK)⟩
theorem Keeps.holds {S : Nat → Prop} {sz n : Nat} {v : Value} {xs : List Value} (hk : Keeps K w w') (h : Holds w S sz v n xs) (hS : ∀ b, S b → K b ∧ b < w.heap.size) : Holds w' S sz v n xs :=
  h.keep fun b hb => hk.block b (hS b hb).2 (hS b hb).1
theorem Keeps.cell (hk : Keeps K w w') {p : Addr} (hp : K p.block) (hlt : p.block < w.heap.size) : w'.cell? p = w.cell? p := World.cell?_of_block (w := w) (hk.block p.block hlt hp)
end

/-- Block g holds a list of choices: a slice of bytes that lies below block B, and a place in it; nothing of it is frozen. -/
def Codes (w : World) (B g : Nat) : Prop :=
  B ≤ g ∧ g < w.heap.size ∧ ∃ (A : Option Addr) (c : Nat) (l : List Int) (p : Nat), w.heap[g]? = some (.cells #[.slice A l.length c, .int .i64 p] 59) ∧ Holds w (fun b => b < B) 1 (.slice A l.length c) l.length (l.map (Value.int .u8)) ∧
    (∀ z ∈ l, 0 ≤ z ∧ z ≤ 255) ∧ p ≤ l.length ∧ l.length ≤ 65536
theorem Codes.keep {w w' : World} {B g : Nat} {K : Nat → Prop} (h : Codes w B g) (hk : Keeps K w w') (hg : K g) (hB : ∀ b, b < B → K b) : Codes w' B g := by
  obtain ⟨h1, h2, A, c, l, p, h3, h4, h5⟩ := h
  exact ⟨h1, Nat.lt_of_lt_of_le h2 hk.size, A, c, l, p, (hk.block g h2 hg).trans h3, hk.holds h4 (fun b hb => ⟨hB b hb, by omega⟩), h5⟩

set_option maxHeartbeats 400000 in
theorem Left_cells (g n c p : Nat) (A : Option Addr) (w : World) (hc0 : w.cell? ⟨g, 0, none⟩ = some (.slice A n c)) (hc1 : w.cell? ⟨g, 1, none⟩ = some (.int .i64 p)) :
    Calls Tryd.prog 38 #[.pointer (some ⟨g, 0, none⟩)] w fun e w' => e = .returned (.bool (decide (p < n))) ∧ ∃ m, w' = w.drewN m := by
  go_enter Tryd.func38, Tryd.ntmps38
  go_wp2
  go_quiet (fail)
  go_wp2
  go_ret
  exact ⟨rfl, _, rfl⟩

theorem Codes.step {w : World} {B g c p k : Nat} {A : Option Addr} {l : List Int} (h1 : B ≤ g) (h2 : g < w.heap.size) (h3 : w.heap[g]? = some (.cells #[.slice A l.length c, .int .i64 p] 59))
    (h4 : Holds w (fun b => b < B) 1 (.slice A l.length c) l.length (l.map (Value.int .u8))) (h5 : ∀ z ∈ l, 0 ≤ z ∧ z ≤ 255) (h6 : p < l.length) (h7 : l.length ≤ 65536) :
    Codes ((w.drewN k).setCell ⟨g, 1, none⟩ (.int .i64 ((p : Int) + 1))) B g := by
  have hk : Keeps (fun b => b ≠ g) w ((w.drewN k).setCell ⟨g, 1, none⟩ (.int .i64 ((p : Int) + 1))) := ((Keeps.refl _ _).drewN k).setCell (.inl (by simp)) _
  refine ⟨h1, Nat.lt_of_lt_of_le h2 hk.size, A, c, l, p + 1, ?_, hk.holds h4 (fun b hb => ⟨by omega, by omega⟩), h5, h6, h7⟩
  have e : (((p + 1 : Nat)) : Int) = (p : Int) + 1 := by omega
  rw [e]
  simp [World.setCell, Array.getElem?_modify, h3]

theorem next_bounds {z n : Int} (hz : 0 ≤ z ∧ z ≤ 255) (hn : 1 ≤ n) : 0 ≤ z * n / 256 ∧ z * n / 256 < n := by
  refine ⟨Int.ediv_nonneg (Int.mul_nonneg hz.1 (by omega)) (by omega), ?_⟩
  apply Int.ediv_lt_of_lt_mul (by omega)
  have h1 : z * n ≤ 255 * n := Int.mul_le_mul_of_nonneg_right hz.2 (by omega)
  omega

set_option maxHeartbeats 400000 in
theorem Next_any (B g : Nat) (n : Int) (w : World) (h : Codes w B g) (hn0 : -1000000 ≤ n) (hn : n ≤ 1000000) :
    Calls Tryd.prog 13 #[.pointer (some ⟨g, 0, none⟩), .int .i64 n] w fun e w' => (∃ v : Int, e = .returned (.int .i64 v) ∧ 0 ≤ v ∧ (1 ≤ n → v < n) ∧ (n < 1 → v = 0)) ∧ Codes w' B g ∧ Keeps (fun b => b ≠ g) w w' := by
  have H := hide h
  obtain ⟨h1, h2, A, c, l, p, h3, h4, h5, h6, h7⟩ := h
  have hc0 : w.cell? ⟨g, 0, none⟩ = some (.slice A l.length c) := by simp [World.cell?, h3]
  have hc1 : w.cell? ⟨g, 1, none⟩ = some (.int .i64 p) := by simp [World.cell?, h3]
  have hf1 : w.frozen? ⟨g, 1, none⟩ = false := by simp [World.frozen?, h3]
  have H3 := hide h3
  have H4 := hide h4
  have H5 := hide h5
  clear h3 h4 h5
  by_cases hp : p < l.length
  · by_cases h1n : n < 1
    · go_enter Tryd.func13, Tryd.ntmps13
      go_wp2_with (go_at_call 38; refine (Left_cells _ _ _ _ _ _ hc0 hc1).mono ?_; rintro e w1 ⟨rfl, m, rfl⟩)
      go_ret
      exact ⟨⟨0, rfl, by omega, by omega, by omega⟩, H.out.keep (K := fun _ => True) ((Keeps.refl _ _).drewN _) trivial (fun _ _ => trivial), (Keeps.refl _ _).drewN _⟩
    · obtain ⟨b, o, rfl, hb, hx⟩ := H4.out.atInt hp
      have hz := H5.out l[p] (List.getElem_mem hp)
      have hbd := next_bounds hz (show 1 ≤ n by omega)
      have hp1 : (p : Int) < (l.length : Int) := by omega
      have hp2 : (0 : Int) ≤ (p : Int) := by omega
      have hq1 : 0 ≤ l[p] * n := Int.mul_nonneg hz.1 (by omega)
      have hq2 : l[p] * n ≤ 255 * n := Int.mul_le_mul_of_nonneg_right hz.2 (by omega)
      go_enter Tryd.func13, Tryd.ntmps13
      go_wp2_with (go_at_call 38; refine (Left_cells _ _ _ _ _ _ hc0 hc1).mono ?_; rintro e w1 ⟨rfl, m, rfl⟩)
      go_quiet (fail)
      go_wp2
      go_ret
      exact ⟨⟨_, rfl, hbd.1, fun _ => hbd.2, by omega⟩, Codes.step h1 h2 H3.out H4.out H5.out hp h7, ((Keeps.refl _ _).drewN _).setCell (.inl (by simp)) _⟩
  · go_enter Tryd.func13, Tryd.ntmps13
    go_wp2_with (go_at_call 38; refine (Left_cells _ _ _ _ _ _ hc0 hc1).mono ?_; rintro e w1 ⟨rfl, m, rfl⟩)
    go_ret
    exact ⟨⟨0, rfl, by omega, by omega, by omega⟩, H.out.keep (K := fun _ => True) ((Keeps.refl _ _).drewN _) trivial (fun _ _ => trivial), (Keeps.refl _ _).drewN _⟩
theorem Holds.take_ {w : World} {S : Nat → Prop} {sz n c m : Nat} {A : Option Addr} {xs : List Value} (h : Holds w S sz (.slice A n c) n xs) (hm : m ≤ n) : Holds w S sz (.slice A m c) m (xs.take (m * sz)) := by
  obtain ⟨A', c', h1, h2, h3, h4, h5⟩ := h
  injection h1 with h1 _ h1'
  subst h1
  subst h1'
  refine ⟨_, _, rfl, by omega, h3, ?_, fun hn => ?_⟩
  · rw [List.length_take, h4]
    exact Nat.min_eq_left (Nat.mul_le_mul_right _ hm)
  · obtain ⟨b, o, hA, hS, hc⟩ := h5 (by omega)
    refine ⟨b, o, hA, hS, fun j u hu => hc j u ?_⟩
    rw [List.getElem?_take] at hu
    split at hu
    · exact hu
    · cases hu
theorem Codes.new {w : World} {n c : Nat} {A : Option Addr} {l : List Int} (hn : l.length = n) (h : Holds w (fun b => b < w.heap.size) 1 (.slice A n c) n (l.map (Value.int .u8))) (hl : ∀ z ∈ l, 0 ≤ z ∧ z ≤ 255) (h7 : n ≤ 65536) :
    Codes (w.alloc (.cells #[.slice A n c, .int .i64 0] 59)) w.heap.size w.heap.size := by
  subst hn
  have hk : Keeps (fun _ => True) w (w.alloc (.cells #[.slice A l.length c, .int .i64 0] 59)) := (Keeps.refl _ _).alloc _
  exact ⟨Nat.le_refl _, by simp, A, c, l, 0, heap_alloc_new w _, hk.holds h (fun b hb => ⟨trivial, hb⟩), hl, Nat.zero_le _, h7⟩
set_option maxHeartbeats 400000 in
theorem New_any (v : Value) (l : List Int) (n : Int) (w : World) (hv : Holds w (fun b => b < w.heap.size) 1 v l.length (l.map (Value.int .u8))) (hl : ∀ z ∈ l, 0 ≤ z ∧ z ≤ 255) (hn : 0 ≤ n ∧ n ≤ 65536) :
    Calls Tryd.prog 11 #[v, .int .i64 n] w fun e w' => e = .returned (.pointer (some ⟨w.heap.size, 0, none⟩)) ∧ Codes w' w.heap.size w.heap.size ∧ Below w.heap.size w w' := by
  have hv0 := hv
  obtain ⟨A, c, rfl, hc1, hc2, _, _⟩ := hv
  have HV := hide hv0
  have HL := hide hl
  clear hv0 hl
  unfold maxLen at hc2
  by_cases hle : (l.length : Int) ≤ n
  · go_enter Tryd.func11, Tryd.ntmps11
    go_wp2
    go_ret
    exact ⟨rfl, Codes.new rfl HV.out HL.out (by omega), (Below.refl _ _).alloc (Nat.le_refl _) _⟩
  · go_enter Tryd.func11, Tryd.ntmps11
    go_wp2
    go_ret
    have ht := HV.out.take_ (m := n.toNat) (by omega)
    rw [Nat.mul_one, ← List.map_take] at ht
    exact ⟨rfl, Codes.new (l := l.take n.toNat) (by rw [List.length_take]; omega) ht (fun z hz => HL.out z (List.mem_of_mem_take hz)) (by omega), (Below.refl _ _).alloc (Nat.le_refl _) _⟩
end Go.Proofs.YtjfkdjlmajfljaaDoor
