/- The contract of the reference's Same. -/
import Derived.Test.YtpjmpkgllnomaaaDoorBase
import Derived.Test.YtpjmpkgllnomaaaDoorRows
import Derived.WalkLawsBesides
import Derived.Deep.QuietTactic
import Derived.BigQuiet
import Derived.Deep.RegionHeld3
import Derived.Deep.DeepCutAuto
import Derived.Laws.AppendOwnNone
import Derived.Laws.Bits64b
import Derived.Lib.TrailingZeros
namespace Go.Proofs.YtpjmpkgllnomaaaDoor
open Go.RowKit
theorem take_succ_eq {l m : List Int} {k : Nat} (hl : k < l.length) (hm : k < m.length) (h : l.take k = m.take k) (he : l[k] = m[k]) : l.take (k + 1) = m.take (k + 1) := by
  rw [List.take_succ_eq_append_getElem hl, List.take_succ_eq_append_getElem hm, h, he]
set_option maxHeartbeats 400000 in
theorem Same_any (v u : Value) (l m : List Int) (S S' : Nat → Prop) (w : World) (hv : Holds w S 1 v l.length (l.map (Value.int .i64))) (hu : Holds w S' 1 u m.length (m.map (Value.int .i64))) :
    Calls Tryd.prog 16 #[v, u] w fun e w' => e = .returned (.bool (decide (l = m))) ∧ ∃ n, w' = w.drewN n := by
  have hv0 := hv
  have hu0 := hu
  obtain ⟨A, c, rfl, hc1, hc2, _, _⟩ := hv
  obtain ⟨A', c', rfl, hd1, hd2, _, _⟩ := hu
  unfold maxLen at hc2 hd2
  have HV := hide hv0
  have HU := hide hu0
  clear hv0 hu0
  by_cases hlen : l.length = m.length
  · have hb : ((l.length : Int) != (m.length : Int)) = false := by rw [hlen]; simp
    have HL := hide hlen
    clear hlen
    go_enter Tryd.func16, Tryd.ntmps16
    go_wp2
    go_loopw [5] (fun i wr => ∃ k : Nat, k ≤ l.length ∧ i = .int .i64 k ∧ (∃ n, wr = w.drewN n) ∧ Hid (l.take k = m.take k)) (fun i _ => l.length - (intOf i).toNat)
    case atStart => exact ⟨0, by omega, rfl, ⟨0, rfl⟩, rfl⟩
    case round =>
      obtain ⟨k, hk, rfl, ⟨nq, rfl⟩, HT⟩ := hrel
      by_cases hlt : k < l.length
      · have hltm : k < m.length := by have := HL.out; omega
        have hd1 : (k : Int) < (l.length : Int) := by omega
        have hd2 : (k : Int) < (m.length : Int) := by omega
        have hd3 : (0 : Int) ≤ (k : Int) := by omega
        obtain ⟨b, o, rfl, _, hx⟩ := HV.out.atInt hlt
        obtain ⟨b', o', rfl, _, hx'⟩ := HU.out.atInt hltm
        by_cases he : l[k] = m[k]
        · have hb2 : (l[k] != m[k]) = false := by simpa using he
          have HE := hide he
          clear he
          go_wp2
          go_quiet (fail)
          go_wp2
          go_roundw
          case rel => exact ⟨k + 1, by omega, by go_num, ⟨_, rfl⟩, take_succ_eq hlt hltm HT.out HE.out⟩
          case measure => simp [intOf]; omega
        · have hb2 : (l[k] != m[k]) = true := by simpa using he
          have HE := hide he
          clear he
          go_wp2
          go_quiet (fail)
          go_wp2
          go_ret
          refine ⟨?_, _, World.drewN_drewN _ _ _⟩
          have : decide (l = m) = false := decide_eq_false (fun h => HE.out (by subst h; rfl))
          rw [this]
          rfl
      · go_wp2
        go_ret
        refine ⟨?_, _, rfl⟩
        have hk' : k = l.length := by omega
        have h1 := HT.out
        rw [hk', List.take_of_length_le (Nat.le_refl _), HL.out, List.take_of_length_le (Nat.le_refl _)] at h1
        rw [decide_eq_true h1]
        rfl
  · have hb : ((l.length : Int) != (m.length : Int)) = true := by simp; omega
    have : decide (l = m) = false := decide_eq_false (fun h => hlen (by rw [h]))
    rw [this]
    clear hlen this
    go_enter Tryd.func16, Tryd.ntmps16
    go_wp2
    go_ret
    exact ⟨rfl, 0, rfl⟩
end Go.Proofs.YtpjmpkgllnomaaaDoor
/- What a call keeps; the list of choices; New, Left and Next. -/
namespace Go.Proofs.YtpjmpkgllnomaaaDoor
open Go.RowKit

/-- From w to w' the blocks of which K holds stay as they are; nothing goes. -/
structure Keeps (K : Nat → Prop) (w w' : World) : Prop where
  os : w'.os = w.os
  tape : w'.tape = w.tape
  output : w'.output = w.output
  size : w.heap.size ≤ w'.heap.size
  block : ∀ b, b < w.heap.size → K b → w'.heap[b]? = w.heap[b]?

section
variable {K K' : Nat → Prop} {a w w' : World}
theorem Keeps.refl (K : Nat → Prop) (w : World) : Keeps K w w := ⟨rfl, rfl, rfl, Nat.le_refl _, fun _ _ _ => rfl⟩
theorem Keeps.trans {b c : World} (h : Keeps K a b) (k : Keeps K b c) : Keeps K a c :=
  ⟨k.os.trans h.os, k.tape.trans h.tape, k.output.trans h.output, Nat.le_trans h.size k.size, fun i hi hK => (k.block i (Nat.lt_of_lt_of_le hi h.size) hK).trans (h.block i hi hK)⟩
theorem Keeps.mono (h : Keeps K w w') (hk : ∀ b, K' b → K b) : Keeps K' w w' := ⟨h.os, h.tape, h.output, h.size, fun b hb hK => h.block b hb (hk b hK)⟩
theorem Keeps.of_below (h : Below w.heap.size w w') : Keeps K w w' := ⟨h.os, h.tape, h.output, h.size, fun b hb _ => h.block b hb⟩
theorem Keeps.below {B : Nat} (h : Keeps K w w') (hk : ∀ b, b < B → K b) (hB : B ≤ w.heap.size) : Below B w w' := ⟨h.os, h.tape, h.output, h.size, fun b hb => h.block b (by omega) (hk b hb)⟩
theorem Keeps.drew (h : Keeps K a w) : Keeps K a w.drew := ⟨h.os, h.tape, h.output, h.size, h.block⟩
theorem Keeps.drewN (h : Keeps K a w) (n : Nat) : Keeps K a (w.drewN n) := ⟨h.os, h.tape, h.output, h.size, h.block⟩
theorem Keeps.alloc (h : Keeps K a w) (o : Obj) : Keeps K a (w.alloc o) :=
  ⟨h.os, h.tape, h.output, Nat.le_trans h.size (by simp), fun b hb hK => (Below.heap_alloc w o b (Nat.lt_of_lt_of_le hb h.size)).trans (h.block b hb hK)⟩
/-- A store into a block that need not be kept, or that is new. -/
theorem Keeps.setCell (h : Keeps K a w) {p : Addr} (hp : ¬ K p.block ∨ a.heap.size ≤ p.block) (u : Value) : Keeps K a (w.setCell p u) :=
  ⟨h.os, h.tape, h.output, by simpa [World.setCell] using h.size, fun b hb hK => (Below.heap_setCell w p u b (by
    rintro rfl
    rcases hp with hp | hp
    · exact hp hK
    · omega)).trans (h.block b hb hK)⟩
theorem Keeps.grown (h : Keeps K a w) {row : Option Nat} (hg : w.grownBy w' row) (hr : ∀ k, row = some k → ¬ K k ∨ a.heap.size ≤ k) : Keeps K a w' :=
  ⟨hg.os.trans h.os, hg.tape.trans h.tape, hg.output.trans h.output, Nat.le_trans h.size hg.size, fun b hb hK => (hg.block b (Nat.lt_of_lt_of_le hb h.size) (fun e => by
    rcases hr b e.symm with hh | hh
    · exact hh hK
    · omega)).trans (h.block b hb hK)⟩
theorem Keeps.holds {S : Nat → Prop} {sz n : Nat} {v : Value} {xs : List Value} (hk : Keeps K w w') (h : Holds w S sz v n xs) (hS : ∀ b, S b → K b ∧ b < w.heap.size) : Holds w' S sz v n xs :=
  h.keep fun b hb => hk.block b (hS b hb).2 (hS b hb).1
theorem Keeps.cell (hk : Keeps K w w') {p : Addr} (hp : K p.block) (hlt : p.block < w.heap.size) : w'.cell? p = w.cell? p := World.cell?_of_block (w := w) (hk.block p.block hlt hp)
end

/-- Block g holds a list of choices: a slice of bytes that lies below block B, and a place in it; nothing of it is frozen. -/
def Codes (w : World) (B g : Nat) : Prop :=
  B ≤ g ∧ g < w.heap.size ∧ ∃ (A : Option Addr) (c : Nat) (l : List Int) (p : Nat), w.heap[g]? = some (.cells #[.slice A l.length c, .int .i64 p] 45) ∧ Holds w (fun b => b < B) 1 (.slice A l.length c) l.length (l.map (Value.int .u8)) ∧
    (∀ z ∈ l, 0 ≤ z ∧ z ≤ 255) ∧ p ≤ l.length ∧ l.length ≤ 65536
theorem Codes.keep {w w' : World} {B g : Nat} {K : Nat → Prop} (h : Codes w B g) (hk : Keeps K w w') (hg : K g) (hB : ∀ b, b < B → K b) : Codes w' B g := by
  obtain ⟨h1, h2, A, c, l, p, h3, h4, h5⟩ := h
  exact ⟨h1, Nat.lt_of_lt_of_le h2 hk.size, A, c, l, p, (hk.block g h2 hg).trans h3, hk.holds h4 (fun b hb => ⟨hB b hb, by omega⟩), h5⟩

set_option maxHeartbeats 400000 in
theorem Left_cells (g n c p : Nat) (A : Option Addr) (w : World) (hc0 : w.cell? ⟨g, 0, none⟩ = some (.slice A n c)) (hc1 : w.cell? ⟨g, 1, none⟩ = some (.int .i64 p)) :
    Calls Tryd.prog 18 #[.pointer (some ⟨g, 0, none⟩)] w fun e w' => e = .returned (.bool (decide (p < n))) ∧ ∃ m, w' = w.drewN m := by
  go_enter Tryd.func18, Tryd.ntmps18
  go_wp2
  go_quiet (fail)
  go_wp2
  go_ret
  exact ⟨rfl, _, rfl⟩

theorem Codes.step {w : World} {B g c p k : Nat} {A : Option Addr} {l : List Int} (h1 : B ≤ g) (h2 : g < w.heap.size) (h3 : w.heap[g]? = some (.cells #[.slice A l.length c, .int .i64 p] 45))
    (h4 : Holds w (fun b => b < B) 1 (.slice A l.length c) l.length (l.map (Value.int .u8))) (h5 : ∀ z ∈ l, 0 ≤ z ∧ z ≤ 255) (h6 : p < l.length) (h7 : l.length ≤ 65536) :
    Codes ((w.drewN k).setCell ⟨g, 1, none⟩ (.int .i64 ((p : Int) + 1))) B g := by
  have hk : Keeps (fun b => b ≠ g) w ((w.drewN k).setCell ⟨g, 1, none⟩ (.int .i64 ((p : Int) + 1))) := ((Keeps.refl _ _).drewN k).setCell (.inl (by simp)) _
  refine ⟨h1, Nat.lt_of_lt_of_le h2 hk.size, A, c, l, p + 1, ?_, hk.holds h4 (fun b hb => ⟨by omega, by omega⟩), h5, h6, h7⟩
  have e : (((p + 1 : Nat)) : Int) = (p : Int) + 1 := by omega
  rw [e]
  simp [World.setCell, Array.getElem?_modify, h3]

theorem next_bounds {z n : Int} (hz : 0 ≤ z ∧ z ≤ 255) (hn : 1 ≤ n) : 0 ≤ z * n / 256 ∧ z * n / 256 < n := by
  refine ⟨Int.ediv_nonneg (Int.mul_nonneg hz.1 (by omega)) (by omega), ?_⟩
  apply Int.ediv_lt_of_lt_mul (by omega)
  have h1 : z * n ≤ 255 * n := Int.mul_le_mul_of_nonneg_right hz.2 (by omega)
  omega

set_option maxHeartbeats 400000 in
theorem Next_any (B g : Nat) (n : Int) (w : World) (h : Codes w B g) (hn0 : -1000000 ≤ n) (hn : n ≤ 1000000) :
    Calls Tryd.prog 7 #[.pointer (some ⟨g, 0, none⟩), .int .i64 n] w fun e w' => (∃ v : Int, e = .returned (.int .i64 v) ∧ 0 ≤ v ∧ (1 ≤ n → v < n) ∧ (n < 1 → v = 0)) ∧ Codes w' B g ∧ Keeps (fun b => b ≠ g) w w' := by
  have H := hide h
  obtain ⟨h1, h2, A, c, l, p, h3, h4, h5, h6, h7⟩ := h
  have hc0 : w.cell? ⟨g, 0, none⟩ = some (.slice A l.length c) := by simp [World.cell?, h3]
  have hc1 : w.cell? ⟨g, 1, none⟩ = some (.int .i64 p) := by simp [World.cell?, h3]
  have hf1 : w.frozen? ⟨g, 1, none⟩ = false := by simp [World.frozen?, h3]
  have H3 := hide h3
  have H4 := hide h4
  have H5 := hide h5
  clear h3 h4 h5
  by_cases hp : p < l.length
  · by_cases h1n : n < 1
    · go_enter Tryd.func7, Tryd.ntmps7
      go_wp2_with (go_at_call 18; refine (Left_cells _ _ _ _ _ _ hc0 hc1).mono ?_; rintro e w1 ⟨rfl, m, rfl⟩)
      go_ret
      exact ⟨⟨0, rfl, by omega, by omega, by omega⟩, H.out.keep (K := fun _ => True) ((Keeps.refl _ _).drewN _) trivial (fun _ _ => trivial), (Keeps.refl _ _).drewN _⟩
    · obtain ⟨b, o, rfl, hb, hx⟩ := H4.out.atInt hp
      have hz := H5.out l[p] (List.getElem_mem hp)
      have hbd := next_bounds hz (show 1 ≤ n by omega)
      have hp1 : (p : Int) < (l.length : Int) := by omega
      have hp2 : (0 : Int) ≤ (p : Int) := by omega
      have hq1 : 0 ≤ l[p] * n := Int.mul_nonneg hz.1 (by omega)
      have hq2 : l[p] * n ≤ 255 * n := Int.mul_le_mul_of_nonneg_right hz.2 (by omega)
      go_enter Tryd.func7, Tryd.ntmps7
      go_wp2_with (go_at_call 18; refine (Left_cells _ _ _ _ _ _ hc0 hc1).mono ?_; rintro e w1 ⟨rfl, m, rfl⟩)
      go_quiet (fail)
      go_wp2
      go_ret
      exact ⟨⟨_, rfl, hbd.1, fun _ => hbd.2, by omega⟩, Codes.step h1 h2 H3.out H4.out H5.out hp h7, ((Keeps.refl _ _).drewN _).setCell (.inl (by simp)) _⟩
  · go_enter Tryd.func7, Tryd.ntmps7
    go_wp2_with (go_at_call 18; refine (Left_cells _ _ _ _ _ _ hc0 hc1).mono ?_; rintro e w1 ⟨rfl, m, rfl⟩)
    go_ret
    exact ⟨⟨0, rfl, by omega, by omega, by omega⟩, H.out.keep (K := fun _ => True) ((Keeps.refl _ _).drewN _) trivial (fun _ _ => trivial), (Keeps.refl _ _).drewN _⟩
theorem Holds.take_ {w : World} {S : Nat → Prop} {sz n c m : Nat} {A : Option Addr} {xs : List Value} (h : Holds w S sz (.slice A n c) n xs) (hm : m ≤ n) : Holds w S sz (.slice A m c) m (xs.take (m * sz)) := by
  obtain ⟨A', c', h1, h2, h3, h4, h5⟩ := h
  injection h1 with h1 _ h1'
  subst h1
  subst h1'
  refine ⟨_, _, rfl, by omega, h3, ?_, fun hn => ?_⟩
  · rw [List.length_take, h4]
    exact Nat.min_eq_left (Nat.mul_le_mul_right _ hm)
  · obtain ⟨b, o, hA, hS, hc⟩ := h5 (by omega)
    refine ⟨b, o, hA, hS, fun j u hu => hc j u ?_⟩
    rw [List.getElem?_take] at hu
    split at hu
    · exact hu
    · cases hu
theorem Codes.new {w : World} {n c : Nat} {A : Option Addr} {l : List Int} (hn : l.length = n) (h : Holds w (fun b => b < w.heap.size) 1 (.slice A n c) n (l.map (Value.int .u8))) (hl : ∀ z ∈ l, 0 ≤ z ∧ z ≤ 255) (h7 : n ≤ 65536) :
    Codes (w.alloc (.cells #[.slice A n c, .int .i64 0] 45)) w.heap.size w.heap.size := by
  subst hn
  have hk : Keeps (fun _ => True) w (w.alloc (.cells #[.slice A l.length c, .int .i64 0] 45)) := (Keeps.refl _ _).alloc _
  exact ⟨Nat.le_refl _, by simp, A, c, l, 0, heap_alloc_new w _, hk.holds h (fun b hb => ⟨trivial, hb⟩), hl, Nat.zero_le _, h7⟩
set_option maxHeartbeats 400000 in
theorem New_any (v : Value) (l : List Int) (n : Int) (w : World) (hv : Holds w (fun b => b < w.heap.size) 1 v l.length (l.map (Value.int .u8))) (hl : ∀ z ∈ l, 0 ≤ z ∧ z ≤ 255) (hn : 0 ≤ n ∧ n ≤ 65536) :
    Calls Tryd.prog 11 #[v, .int .i64 n] w fun e w' => e = .returned (.pointer (some ⟨w.heap.size, 0, none⟩)) ∧ Codes w' w.heap.size w.heap.size ∧ Below w.heap.size w w' := by
  have hv0 := hv
  obtain ⟨A, c, rfl, hc1, hc2, _, _⟩ := hv
  have HV := hide hv0
  have HL := hide hl
  clear hv0 hl
  unfold maxLen at hc2
  by_cases hle : (l.length : Int) ≤ n
  · go_enter Tryd.func11, Tryd.ntmps11
    go_wp2
    go_ret
    exact ⟨rfl, Codes.new rfl HV.out HL.out (by omega), (Below.refl _ _).alloc (Nat.le_refl _) _⟩
  · go_enter Tryd.func11, Tryd.ntmps11
    go_wp2
    go_ret
    have ht := HV.out.take_ (m := n.toNat) (by omega)
    rw [Nat.mul_one, ← List.map_take] at ht
    exact ⟨rfl, Codes.new (l := l.take n.toNat) (by rw [List.length_take]; omega) ht (fun z hz => HL.out z (List.mem_of_mem_take hz)) (by omega), (Below.refl _ _).alloc (Nat.le_refl _) _⟩
end Go.Proofs.YtpjmpkgllnomaaaDoor
/- Rows of ints that a call owns: append of one, append of another row. -/
namespace Go.Proofs.YtpjmpkgllnomaaaDoor
open Go.ChangeShapes Go.WideShapes Go.ChangeAt Go.RowKit Go.Deep
/-- v is a row of ints of its own, made at base or later. -/
def Row (w : World) (base : Nat) (v : Value) (l : List Int) : Prop := w.ownsRow base 3 1 v l.length (l.map (Value.int .i64))
theorem int_info : (Tryd.prog.info? 3).map (fun i => (i.zero, i.size, i.bytes)) = some (some (.int .i64 0), 1, 8) := by kernel_rfl
theorem Row.nil (w : World) (base : Nat) : Row w base (.slice none 0 0) [] := World.ownsRow_nil _ _ _ _
theorem Row.holds {w : World} {base : Nat} {v : Value} {l : List Int} (h : Row w base v l) : Holds w (fun b => base ≤ b ∧ b < w.heap.size) 1 v l.length (l.map (Value.int .i64)) := Holds.of_own h
theorem Row.holdsLt {w : World} {base : Nat} {v : Value} {l : List Int} (h : Row w base v l) : Holds w (fun b => b < w.heap.size) 1 v l.length (l.map (Value.int .i64)) := h.holds.mono fun _ h => h.2
theorem Row.lower {w : World} {base base' : Nat} {v : Value} {l : List Int} (h : Row w base v l) (hb : base' ≤ base) : Row w base' v l := by
  obtain ⟨h1, h2⟩ := h
  refine ⟨h1, ?_⟩
  rcases h2 with h2 | ⟨g, cap, cur, hv, hg, r⟩
  · exact .inl h2
  · exact .inr ⟨g, cap, cur, hv, Nat.le_trans hb hg, r⟩
theorem Row.lt {w : World} {base : Nat} {v : Value} {l : List Int} (h : Row w base v l) : ∀ k, v.ownBlock = some k → base ≤ k ∧ k < w.heap.size := World.ownsRow.lt h
theorem Row.keep {w w' : World} {base : Nat} {v : Value} {l : List Int} {K : Nat → Prop} (h : Row w base v l) (hk : Keeps K w w') (hK : ∀ b, v.ownBlock = some b → K b) : Row w' base v l := by
  have hlt := h.lt
  obtain ⟨h1, h2⟩ := h
  refine ⟨h1, ?_⟩
  rcases h2 with h2 | ⟨g, cap, cur, hv, hg, hh, r⟩
  · exact .inl h2
  · have ho : v.ownBlock = some g := by rw [hv]; rfl
    exact .inr ⟨g, cap, cur, hv, hg, by rw [hk.block g (hlt g ho).2 (hK g ho)]; exact hh, r⟩
theorem Row.below {w w' : World} {base : Nat} {v : Value} {l : List Int} (h : Row w base v l) (hb : Below w.heap.size w w') : Row w' base v l := Row.keep (K := fun _ => True) h (Keeps.of_below hb) fun _ _ => trivial
theorem Row.alloc {w : World} {base : Nat} {v : Value} {l : List Int} (h : Row w base v l) (o : Obj) : Row (w.alloc o) base v l := World.ownsRow.alloc h o
theorem Row.le {w : World} {base : Nat} {v : Value} {l : List Int} (h : Row w base v l) : l.length ≤ maxLen := h.holds.le
/-- append(v, x): the walk's step, in the world behind the making of the one element. -/
theorem app_int {ops : Array Oper} {rest : List Oper} {o : Oper} {a : Act} {Q : Exit → Act → World → Prop} (hgd : o.guard = none) (s x : Operand)
    (ho : o.op = .call { callee := .builtin .append, args := #[s, x], argTypes := #[25, 25] })
    (w : World) (base : Nat) (v : Value) (l : List Int) (n : Int) (hs : a.eval s = v) (hx : a.eval x = .slice (some ⟨w.heap.size, 0, none⟩) 1 1) (h : Row w base v l) (hn : l.length ≤ 1000000) (hbase : base ≤ w.heap.size)
    (hq : ∀ v' w', Row w' base v' (l ++ [n]) → Keeps (fun b => v.ownBlock ≠ some b) w w' → wpList Tryd.prog ops Q rest (a.put o.dst v') w') :
    wpList Tryd.prog ops Q (o :: rest) a (w.alloc (.cells #[.int .i64 n] 3)) := by
  obtain ⟨i0, hi, hz0, hz1, hz2⟩ := info_parts int_info
  have h0 : w.ownsRow base 3 1 v l.length (l.map (Value.int .i64)) := h
  refine wpList_append_own _ hgd s x 25 ho base 3 i0 _ 1 8 Tryd.underlying25 hi hz0 hz1 hz2 rfl (by decide) v l.length _ hs (h0.alloc _) ⟨w.heap.size, 0, none⟩ 1 1 [.int .i64 n] hx rfl ?c1 ?c2 ?c3 ?c4 ?c5 ?_
  case c1 =>
    intro j u hj
    match j, hj with
    | 0, hj => simp at hj; subst hj; simp [Addr.add]
  case c2 => intro u hu; simp at hu; subst hu; rfl
  case c3 => unfold maxLen; omega
  case c4 => omega
  case c5 => simp; omega
  intro v' w' h1 h2 _
  refine hq v' w' ?_ (((Keeps.refl _ _).alloc _).grown h2 (fun k hk => .inl (fun hne => hne hk)))
  unfold Row
  rw [List.length_append, List.map_append]
  exact h1
/-- append(v, u...): the source may be nil. -/
theorem app_row {ops : Array Oper} {rest : List Oper} {o : Oper} {a : Act} {Q : Exit → Act → World → Prop} (hgd : o.guard = none) (s x : Operand)
    (ho : o.op = .call { callee := .builtin .append, args := #[s, x], argTypes := #[25, 25] })
    (w : World) (base base' : Nat) (v u : Value) (l m : List Int) (hs : a.eval s = v) (hx : a.eval x = u) (h : Row w base v l) (hu : Row w base' u m) (hn : l.length + m.length ≤ 1000000) (hbase : base ≤ w.heap.size)
    (hq : ∀ v' w', Row w' base v' (l ++ m) → Keeps (fun b => v.ownBlock ≠ some b) w w' → wpList Tryd.prog ops Q rest (a.put o.dst v') w') :
    wpList Tryd.prog ops Q (o :: rest) a w := by
  obtain ⟨i0, hi, hz0, hz1, hz2⟩ := info_parts int_info
  have h0 : w.ownsRow base 3 1 v l.length (l.map (Value.int .i64)) := h
  have hu0 := hu.holds
  rcases hu.2 with ⟨rfl, hm⟩ | ⟨g, cap, cur, rfl, _⟩
  · have hm0 : m = [] := List.eq_nil_of_length_eq_zero (by simpa using hm)
    subst hm0
    refine wpList_append_own_none hgd s x 25 ho base 3 i0 1 Tryd.underlying25 hi v l.length _ hs h0 hx ?_
    exact hq v w (by rw [List.append_nil]; exact h) (Keeps.refl _ _)
  · refine wpList_append_own _ hgd s x 25 ho base 3 i0 _ 1 8 Tryd.underlying25 hi hz0 hz1 hz2 rfl (by decide) v l.length _ hs h0 ⟨g, 0, none⟩ m.length cap (m.map (Value.int .i64)) hx (by simp) ?c1 ?c2 ?c3 ?c4 hbase ?_
    case c1 => exact World.ownsRow.cells hu rfl
    case c2 =>
      intro u hu
      obtain ⟨z, _, rfl⟩ := List.mem_map.1 hu
      rfl
    case c3 => unfold maxLen; omega
    case c4 => omega
    intro v' w' h1 h2 _
    refine hq v' w' ?_ ((Keeps.refl _ _).grown h2 (fun k hk => .inl (fun hne => hne hk)))
    unfold Row
    rw [List.length_append, List.map_append]
    exact h1
theorem below_app {w wr w' : World} {v : Value} {out : List Int} (hb : Below w.heap.size w wr) (h : Row wr w.heap.size v out) (hk : Keeps (fun b => v.ownBlock ≠ some b) wr w') : Below w.heap.size w w' :=
  hb.trans (hk.below (fun b hlt e => by have := (h.lt b e).1; omega) hb.size)
theorem below_drewN2 {B : Nat} {a w : World} (h : Below B a w) (n : Nat) : Below B a (w.drewN n) := ⟨h.os, h.tape, h.output, h.size, h.block⟩
end Go.Proofs.YtpjmpkgllnomaaaDoor
/- The reference of sets: Add. -/
namespace Go.Proofs.YtpjmpkgllnomaaaDoor
open Go.ChangeShapes Go.WideShapes Go.ChangeAt Go.RowKit Go.Deep
def inB (n : Int) : Bool := decide (0 ≤ n) && decide (n < 512)
def insL (n : Int) : List Int → List Int
  | [] => [n]
  | a :: s => if n ≤ a then (if n < a then n :: a :: s else a :: s) else a :: insL n s
def addL (s : List Int) (n : Int) : List Int := if inB n then insL n s else s
def insD (d : Bool) (n : Int) (s : List Int) : List Int := if d then s else insL n s
theorem insL_length (n : Int) (s : List Int) : (insL n s).length ≤ s.length + 1 := by
  induction s with
  | nil => simp [insL]
  | cons a s ih => unfold insL; split
                   · split <;> simp
                   · simp; omega
theorem addL_length (s : List Int) (n : Int) : (addL s n).length ≤ s.length + 1 := by
  unfold addL
  split
  · exact insL_length n s
  · omega
theorem drop_at {l : List Int} {k : Nat} (h : k < l.length) : l.drop k = l[k] :: l.drop (k + 1) := List.drop_eq_getElem_cons h
theorem insD_true (n : Int) (s : List Int) : insD true n s = s := rfl
theorem insD_gt {n : Int} {l : List Int} {k : Nat} (h : k < l.length) (hn : n < l[k]) : insD false n (l.drop k) = n :: l[k] :: l.drop (k + 1) := by
  rw [drop_at h]; simp [insD, insL, hn, Int.le_of_lt hn]
theorem insD_eq {n : Int} {l : List Int} {k : Nat} (h : k < l.length) (hn : n = l[k]) : insD false n (l.drop k) = l[k] :: l.drop (k + 1) := by
  rw [drop_at h]; simp [insD, insL, hn]
theorem insD_lt {n : Int} {l : List Int} {k : Nat} (h : k < l.length) (hn : ¬ n ≤ l[k]) : insD false n (l.drop k) = l[k] :: insD false n (l.drop (k + 1)) := by
  rw [drop_at h]; simp [insD, insL, hn]
set_option maxHeartbeats 400000 in
theorem good_any (n : Int) (w : World) : Calls Tryd.prog 34 #[.int .i64 n] w fun e w' => e = .returned (.bool (inB n)) ∧ w = w' := by
  unfold inB
  by_cases h1 : 0 ≤ n
  · by_cases h2 : n < 512
    all_goals
      go_enter Tryd.func34, Tryd.ntmps34
      go_wp2
      go_ret
      simp [h1, h2]
  · go_enter Tryd.func34, Tryd.ntmps34
    go_wp2
    go_ret
    exact ⟨by simp; omega, rfl⟩
set_option maxHeartbeats 1000000 in
theorem rAdd_any (v : Value) (l : List Int) (n : Int) (w : World) (hv : Holds w (fun b => b < w.heap.size) 1 v l.length (l.map (Value.int .i64))) (hlen : l.length ≤ 100000) :
    Calls Tryd.prog 25 #[v, .int .i64 n] w fun e w' => (∃ r, e = .returned r ∧ Row w' w.heap.size r (addL l n)) ∧ Below w.heap.size w w' := by
  have HV := hide hv
  obtain ⟨A, c, rfl, hc1, hc2, _, _⟩ := hv
  unfold maxLen at hc2
  go_enter Tryd.func25, Tryd.ntmps25
  go_wp2_with (go_at_call 34; refine (good_any _ _).mono ?_; rintro e w' ⟨rfl, rfl⟩)
  go_loopw [5, 6, 7] (fun r d i wr => ∃ (out : List Int) (dn : Bool) (k : Nat), k ≤ l.length ∧ i = .int .i64 k ∧ d = .bool dn ∧ Hid (Row wr w.heap.size r out) ∧ Hid (Below w.heap.size w wr) ∧ Hid (out ++ insD dn n (l.drop k) = addL l n)) (fun _ _ i _ => l.length - (intOf i).toNat)
  case atStart =>
    refine ⟨[], !inB n, 0, by omega, rfl, by go_num, hide (Row.nil _ _), hide (Below.refl _ _), hide ?_⟩
    unfold addL insD
    cases inB n <;> simp
  case round =>
    obtain ⟨out, dn, k, hk, rfl, rfl, HO, HB, HE⟩ := hrel
    have hol : out.length ≤ 100001 := by
      have := congrArg List.length HE.out
      have h2 := addL_length l n
      simp at this
      omega
    by_cases hlt : k < l.length
    · have hd : (k : Int) < (l.length : Int) := by omega
      obtain ⟨b, o, rfl, hSb, hx⟩ := (HV.out.below HB.out (fun b h => h)).atInt hlt
      cases dn
      · by_cases hle : n ≤ l[k]
        · have hge : l[k] ≥ n := hle
          by_cases hlt2 : n < l[k]
          · go_wp2_with (at_builtin; refine app_int rfl _ _ rfl _ _ _ _ _ rfl rfl HO.out (by omega) HB.out.size ?_)
            rintro v' w' hr hkp
            have HR := hide hr
            have HBx := hide (below_app HB.out HO.out hkp)
            clear hr hkp
            have hx2 : w'.cell? ⟨b, o + k, none⟩ = some (.int .i64 l[k]) := by rw [Below.cell HBx.out hSb, ← Below.cell HB.out hSb]; exact hx
            clear hx
            go_wp2_with (at_builtin; refine app_int rfl _ _ rfl _ _ _ _ _ rfl rfl HR.out (by simp; omega) HBx.out.size ?_)
            rintro v'' w'' hr hkp
            have HR2 := hide hr
            have HB2 := hide (below_app HBx.out HR.out hkp)
            clear hr hkp
            go_wp2
            go_roundw
            case rel =>
              refine ⟨_, true, k + 1, by omega, by go_num, rfl, HR2, HB2, hide ?_⟩
              have := HE.out
              rw [insD_gt hlt hlt2] at this
              rw [insD_true, ← this]; simp
            case measure => simp only [intOf]; omega
          · have heq : Hid (n = l[k]) := hide (by omega)
            go_wp2_with (at_builtin; refine app_int rfl _ _ rfl _ _ _ _ _ rfl rfl HO.out (by omega) HB.out.size ?_)
            rintro v' w' hr hkp
            have HR := hide hr
            have HBx := hide (below_app HB.out HO.out hkp)
            clear hr hkp
            go_wp2
            go_roundw
            case rel =>
              refine ⟨_, true, k + 1, by omega, by go_num, rfl, HR, HBx, hide ?_⟩
              have := HE.out
              rw [insD_eq hlt heq.out] at this
              rw [insD_true, ← this]; simp
            case measure => simp only [intOf]; omega
        · have hge : ¬ l[k] ≥ n := hle
          go_wp2_with (at_builtin; refine app_int rfl _ _ rfl _ _ _ _ _ rfl rfl HO.out (by omega) HB.out.size ?_)
          rintro v' w' hr hkp
          have HR := hide hr
          have HBx := hide (below_app HB.out HO.out hkp)
          clear hr hkp
          go_wp2
          go_roundw
          case rel =>
            refine ⟨_, false, k + 1, by omega, by go_num, rfl, HR, HBx, hide ?_⟩
            have := HE.out
            rw [insD_lt hlt (by omega)] at this
            rw [← this]; simp
          case measure => simp only [intOf]; omega
      · go_wp2_with (at_builtin; refine app_int rfl _ _ rfl _ _ _ _ _ rfl rfl HO.out (by omega) HB.out.size ?_)
        rintro v' w' hr hkp
        have HR := hide hr
        have HBx := hide (below_app HB.out HO.out hkp)
        clear hr hkp
        go_wp2
        go_roundw
        case rel =>
          refine ⟨_, true, k + 1, by omega, by go_num, rfl, HR, HBx, hide ?_⟩
          have := HE.out
          rw [insD_true, drop_at hlt] at this
          rw [insD_true, ← this]; simp
        case measure => simp only [intOf]; omega
    · have hd : ¬ (k : Int) < (l.length : Int) := by omega
      have hkl : k = l.length := by omega
      cases dn
      · go_wp2_with (at_builtin; refine app_int rfl _ _ rfl _ _ _ _ _ rfl rfl HO.out (by omega) HB.out.size ?_)
        rintro v' w' hr hkp
        have HBx := hide (below_app HB.out HO.out hkp)
        have := HE.out
        rw [hkl, List.drop_length, show insD false n [] = [n] from rfl] at this
        rw [this] at hr
        have HR := hide hr
        clear hr hkp this
        go_wp2
        go_ret
        exact ⟨⟨_, rfl, HR.out⟩, HBx.out⟩
      · have := HE.out
        rw [hkl, List.drop_length, insD_true, List.append_nil] at this
        subst this
        go_wp2
        go_ret
        exact ⟨⟨_, rfl, HO.out⟩, HB.out⟩
end Go.Proofs.YtpjmpkgllnomaaaDoor
/- The reference of sets: Has, Remove. -/
namespace Go.Proofs.YtpjmpkgllnomaaaDoor
open Go.ChangeShapes Go.WideShapes Go.ChangeAt Go.RowKit Go.Deep
def remL (l : List Int) (n : Int) : List Int := l.filter (fun x => x != n)
def hasL (l : List Int) (n : Int) : Bool := l.contains n
def meetL (a b : List Int) : List Int := a.filter (fun x => hasL b x)
def minusL (a b : List Int) : List Int := a.filter (fun x => !hasL b x)
def unionL (a b : List Int) : List Int := b.foldl addL a
def ofL (l : List Int) : List Int := l.foldl addL []
theorem filter_take_yes {p : Int → Bool} {l : List Int} {k : Nat} (h : k < l.length) (hp : p l[k] = true) : (l.take (k + 1)).filter p = (l.take k).filter p ++ [l[k]] := by
  rw [List.take_succ_eq_append_getElem h, List.filter_append]; simp [hp]
theorem filter_take_no {p : Int → Bool} {l : List Int} {k : Nat} (h : k < l.length) (hp : p l[k] = false) : (l.take (k + 1)).filter p = (l.take k).filter p := by
  rw [List.take_succ_eq_append_getElem h, List.filter_append]; simp [hp]
theorem filter_take_all {p : Int → Bool} {l : List Int} {k : Nat} (hk : k ≤ l.length) (h : ¬ k < l.length) : (l.take k).filter p = l.filter p := by rw [List.take_of_length_le (by omega)]
theorem filter_take_le {p : Int → Bool} {l : List Int} {k : Nat} : ((l.take k).filter p).length ≤ l.length := Nat.le_trans (List.length_filter_le _ _) (by simp; omega)
theorem foldl_take_succ {f : List Int → Int → List Int} {a : List Int} {l : List Int} {k : Nat} (h : k < l.length) : (l.take (k + 1)).foldl f a = f ((l.take k).foldl f a) l[k] := by
  rw [List.take_succ_eq_append_getElem h, List.foldl_append]; rfl
theorem foldl_addL_length (l a : List Int) : (l.foldl addL a).length ≤ a.length + l.length := by
  induction l generalizing a with
  | nil => simp
  | cons x l ih => have := ih (addL a x); have := addL_length a x; simp; omega
set_option maxHeartbeats 400000 in
theorem rHas_any (v : Value) (l : List Int) (n : Int) (S : Nat → Prop) (w : World) (hv : Holds w S 1 v l.length (l.map (Value.int .i64))) :
    Calls Tryd.prog 32 #[v, .int .i64 n] w fun e w' => e = .returned (.bool (hasL l n)) ∧ w = w' := by
  have HV := hide hv
  obtain ⟨A, c, rfl, hc1, hc2, _, _⟩ := hv
  unfold maxLen at hc2
  go_enter Tryd.func32, Tryd.ntmps32
  go_wp2
  go_loop [5] (fun i => ∃ k : Nat, k ≤ l.length ∧ i = .int .i64 k ∧ Hid (hasL (l.take k) n = false)) (fun i => l.length - (intOf i).toNat)
  case atStart => exact ⟨0, by omega, rfl, hide (by simp [hasL])⟩
  case round =>
    obtain ⟨k, hk, rfl, HN⟩ := hrel
    by_cases hlt : k < l.length
    · have hd : (k : Int) < (l.length : Int) := by omega
      obtain ⟨b, o, rfl, hSb, hx⟩ := HV.out.atInt hlt
      cases he : (l[k] == n)
      · have HX := hide he
        go_wp2
        go_round
        case rel =>
          refine ⟨k + 1, by omega, by go_num, hide ?_⟩
          have h1 := HN.out
          unfold hasL at h1 ⊢
          rw [List.take_succ_eq_append_getElem hlt, List.contains_append, h1]
          simpa using fun e => by have := HX.out; simp at this; exact this e.symm
        case measure => simp only [intOf]; omega
      · have hc : Hid (hasL l n = true) := hide (by simp at he; subst he; simp [hasL])
        go_wp2
        go_ret
        exact ⟨by rw [hc.out]; rfl, rfl⟩
    · have hd : ¬ (k : Int) < (l.length : Int) := by omega
      have hc : Hid (hasL l n = false) := hide (by have := HN.out; rwa [List.take_of_length_le (by omega)] at this)
      go_wp2
      go_ret
      exact ⟨by rw [hc.out]; rfl, rfl⟩
end Go.Proofs.YtpjmpkgllnomaaaDoor
/- The reference of sets: Check. -/
namespace Go.Proofs.YtpjmpkgllnomaaaDoor
open Go.ChangeShapes Go.WideShapes Go.ChangeAt Go.RowKit Go.Deep
def okAt (l : List Int) (k : Nat) : Bool := inB (l.getD k 0) && (k == 0 || decide (l.getD (k - 1) 0 < l.getD k 0))
def checkL (l : List Int) : Bool := (List.range l.length).all (okAt l)
theorem okAt_zero {l : List Int} (h : 0 < l.length) : okAt l 0 = inB l[0] := by simp [okAt, List.getD, h]
theorem okAt_succ {l : List Int} {j : Nat} (h : j + 1 < l.length) : okAt l (j + 1) = (inB l[j + 1] && decide (l[j] < l[j + 1])) := by
  have : j < l.length := by omega
  simp [okAt, List.getD, h, this]
theorem checkL_bad {l : List Int} {k : Nat} (h : k < l.length) (hb : okAt l k = false) : checkL l = false := by
  unfold checkL; rw [List.all_eq_false]; exact ⟨k, by simpa using h, by simp [hb]⟩
theorem checkL_ok {l : List Int} (h : ∀ k, k < l.length → okAt l k = true) : checkL l = true := by
  unfold checkL; rw [List.all_eq_true]; intro k hk; exact h k (by simpa using hk)
theorem good_is {n : Int} {b : Bool} (h : inB n = b) (w : World) : Calls Tryd.prog 34 #[.int .i64 n] w fun e w' => e = .returned (.bool b) ∧ w' = w := (good_any n w).mono fun e w' ⟨h1, h2⟩ => ⟨by rw [h1, h], h2.symm⟩
set_option maxHeartbeats 1000000 in
theorem rCheck_any (v : Value) (l : List Int) (S : Nat → Prop) (w : World) (hv : Holds w S 1 v l.length (l.map (Value.int .i64))) (hS : ∀ b, S b → b < w.heap.size) :
    Calls Tryd.prog 31 #[v] w fun e w' => e = .returned (.bool (checkL l)) ∧ Below w.heap.size w w' := by
  have HV := hide hv
  have HS := hide hS
  clear hS
  obtain ⟨A, c, rfl, hc1, hc2, _, _⟩ := hv
  unfold maxLen at hc2
  go_enter Tryd.func31, Tryd.ntmps31
  go_wp2
  go_loopw [3] (fun i wr => ∃ k : Nat, k ≤ l.length ∧ i = .int .i64 k ∧ Hid (Below w.heap.size w wr) ∧ Hid (∀ j, j < k → okAt l j = true)) (fun i _ => l.length - (intOf i).toNat)
  case atStart => exact ⟨0, by omega, rfl, hide (Below.refl _ _), hide (fun j h => by omega)⟩
  case round =>
    obtain ⟨k, hk, rfl, HB, HA⟩ := hrel
    by_cases hlt : k < l.length
    · have hd : (k : Int) < (l.length : Int) := by omega
      obtain ⟨b, o, rfl, hSb, hx⟩ := (HV.out.below HB.out HS.out).atInt hlt
      cases hin : inB l[k]
      · have HX := hide hin
        have HF : Hid (checkL l = false) := hide (checkL_bad hlt (by unfold okAt; simp [List.getD, hlt, hin]))
        rcases Nat.eq_zero_or_pos k with rfl | hpos
        · simp only [Nat.add_zero] at hx
          have hp : ¬ ((0 : Nat) : Int) > 0 := by omega
          go_wp2
          go_quiet (first | (go_at_call 34; refine Calls.quiet_of_same (good_is HX.out _)))
          go_wp2
          go_ret
          exact ⟨by rw [HF.out]; rfl, by first | exact HB.out | exact below_drewN2 HB.out _⟩
        · have hp : (k : Int) > 0 := by omega
          go_wp2
          go_quiet (first | (go_at_call 34; refine Calls.quiet_of_same (good_is HX.out _)))
          go_wp2
          go_ret
          exact ⟨by rw [HF.out]; rfl, by first | exact HB.out | exact below_drewN2 HB.out _⟩
      · have HX := hide hin
        have step : okAt l k = true → Hid (∀ j, j < k + 1 → okAt l j = true) := fun h => hide (fun j hj => by
          by_cases e : j = k
          · subst e; exact h
          · exact HA.out j (by omega))
        rcases Nat.eq_zero_or_pos k with rfl | hpos
        · simp only [Nat.add_zero] at hx
          have hp : ¬ ((0 : Nat) : Int) > 0 := by omega
          have HA2 := step (by rw [okAt_zero hlt]; exact hin)
          clear step
          go_wp2
          go_quiet (first | (go_at_call 34; refine Calls.quiet_of_same (good_is HX.out _)))
          go_wp2
          go_roundw
          case rel => exact ⟨_, by omega, by go_num, by first | exact HB | exact hide (below_drewN2 HB.out _), HA2⟩
          case measure => simp only [intOf]; omega
        · obtain ⟨j, rfl⟩ : ∃ j, k = j + 1 := ⟨k - 1, by omega⟩
          have hp : ((j + 1 : Nat) : Int) > 0 := by omega
          have hj : (0 : Int) ≤ (j : Int) := by omega
          have hjl : j < l.length := by omega
          have hd2 : (j : Int) < (l.length : Int) := by omega
          obtain ⟨b', o', he', _, hx0⟩ := (HV.out.below HB.out HS.out).atInt hjl
          injection he' with he'
          injection he' with e1 e2
          subst e1; subst e2
          by_cases hcmp : l[j + 1] ≤ l[j]
          · have HF : Hid (checkL l = false) := hide (checkL_bad hlt (by rw [okAt_succ hlt]; simp; omega))
            clear step
            go_wp2
            go_quiet (first | (go_at_call 34; refine Calls.quiet_of_same (good_is HX.out _)))
            go_wp2
            go_ret
            exact ⟨by rw [HF.out]; rfl, by first | exact HB.out | exact below_drewN2 HB.out _⟩
          · have HA2 := step (by rw [okAt_succ hlt]; simp [hin]; omega)
            clear step
            go_wp2
            go_quiet (first | (go_at_call 34; refine Calls.quiet_of_same (good_is HX.out _)))
            go_wp2
            go_roundw
            case rel => exact ⟨_, by omega, by go_num, by first | exact HB | exact hide (below_drewN2 HB.out _), HA2⟩
            case measure => simp only [intOf]; omega
    · have hd : ¬ (k : Int) < (l.length : Int) := by omega
      have HF : Hid (checkL l = true) := hide (checkL_ok (fun j hj => HA.out j (by omega)))
      go_wp2
      go_ret
      exact ⟨by rw [HF.out]; rfl, by first | exact HB.out | exact below_drewN2 HB.out _⟩
end Go.Proofs.YtpjmpkgllnomaaaDoor
/- Words of 64 bits for predicates: no program in sight. -/
namespace Go.Proofs.YtpjmpkgllnomaaaDoor
open Go
def bitsN : Nat → (Nat → Bool) → Nat
  | 0, _ => 0
  | k + 1, f => bitsN k f + (if f k then 2 ^ k else 0)
theorem bitsN_lt (k : Nat) (f : Nat → Bool) : bitsN k f < 2 ^ k := by
  induction k with
  | zero => simp [bitsN]
  | succ k ih => unfold bitsN; rw [Nat.pow_succ]; split <;> omega
theorem testBit_bitsN (k : Nat) (f : Nat → Bool) (i : Nat) : (bitsN k f).testBit i = (decide (i < k) && f i) := by
  induction k with
  | zero => simp [bitsN]
  | succ k ih =>
    unfold bitsN
    have hlt := bitsN_lt k f
    by_cases hf : f k
    · rw [if_pos hf, Nat.add_comm, show 2 ^ k = 2 ^ k * 1 by omega, Nat.testBit_two_pow_mul_add _ hlt]
      by_cases h : i < k
      · rw [if_pos h, ih]; simp [h, Nat.lt_succ_of_lt h]
      · rw [if_neg h]
        by_cases h2 : i = k
        · subst h2; simp [hf]
        · have e1 : i - k = (i - k - 1) + 1 := by omega
          rw [e1, Nat.testBit_succ]
          have : ¬ i < k + 1 := by omega
          simp [this]
    · rw [if_neg hf, Nat.add_zero, ih]
      by_cases h : i < k
      · simp [h, Nat.lt_succ_of_lt h]
      · by_cases h2 : i = k
        · subst h2; simp [hf]
        · have : ¬ i < k + 1 := by omega
          simp [h, this]
/-- The j-th word of a set. -/
def wordOf (p : Nat → Bool) (j : Nat) : Nat := bitsN 64 (fun i => p (64 * j + i))
theorem wordOf_lt (p : Nat → Bool) (j : Nat) : wordOf p j < 18446744073709551616 := bitsN_lt 64 _
theorem wordOf_eq {p : Nat → Bool} {j x : Nat} (hx : x < 18446744073709551616) (h : ∀ i, i < 64 → x.testBit i = p (64 * j + i)) : wordOf p j = x := by
  apply Nat.eq_of_testBit_eq
  intro i
  unfold wordOf
  rw [testBit_bitsN]
  by_cases hi : i < 64
  · simp [hi, h i hi]
  · have : x < 2 ^ i := Nat.lt_of_lt_of_le hx (by
      have : 2 ^ 64 ≤ 2 ^ i := Nat.pow_le_pow_right (by omega) (by omega)
      simpa using this)
    rw [Nat.testBit_lt_two_pow this]
    simp [hi]
theorem wordOf_bit (p : Nat → Bool) (j : Nat) {i : Nat} (h : i < 64) : (wordOf p j).testBit i = p (64 * j + i) := by
  unfold wordOf
  rw [testBit_bitsN]; simp [h]
def putP (p : Nat → Bool) (n : Nat) (b : Bool) : Nat → Bool := fun k => if k = n then b else p k
theorem pow_lt64 {r : Nat} (h : r < 64) : 2 ^ r < 18446744073709551616 := by
  have : 2 ^ r < 2 ^ 64 := Nat.pow_lt_pow_right (by omega) h
  simpa using this
theorem wrap_pow {r : Nat} (h : r < 64) : IntKind.u64.wrap (2 ^ r) = ((2 ^ r : Nat) : Int) := by
  have := pow_lt64 h
  rw [IntKind.wrap_u64]
  have e : (2 : Int) ^ r = ((2 ^ r : Nat) : Int) := by simp
  rw [e]
  generalize 2 ^ r = x at *
  omega
theorem put_word_in (p : Nat → Bool) {q r n : Nat} (hn : n = 64 * q + r) (hr : r < 64) : bits BinOp.or IntKind.u64 (wordOf p q) (IntKind.u64.wrap (2 ^ r)) = (wordOf (putP p n true) q : Nat) := by
  rw [wrap_pow hr, bits_or_u64_nat _ _ (wordOf_lt _ _) (pow_lt64 hr)]
  congr 1
  symm
  apply wordOf_eq
  · exact Nat.or_lt_two_pow (n := 64) (wordOf_lt p q) (pow_lt64 hr)
  · intro i hi
    rw [Nat.testBit_or, wordOf_bit p q hi, Nat.testBit_two_pow]
    unfold putP
    by_cases e : r = i
    · subst e; simp [hn]
    · have : ¬ 64 * q + i = n := by omega
      simp [e, this]
theorem bits_andNot_u64_nat (a b : Nat) (ha : a < 18446744073709551616) (hb : b < 18446744073709551616) : bits .andNot .u64 (a : Int) (b : Int) = ((a &&& (18446744073709551615 - b) : Nat) : Int) := by
  have hx : a &&& (18446744073709551615 - b) < 2 ^ 64 := Nat.and_lt_two_pow _ (by omega)
  have e1 : ∀ c : Nat, c < 18446744073709551616 → (BitVec.ofInt 64 (c : Int)).toNat = c := fun c hc => by
    rw [BitVec.ofInt_natCast, BitVec.toNat_ofNat]; exact Nat.mod_eq_of_lt (by omega)
  show IntKind.u64.wrap ((BitVec.ofInt 64 (a : Int) &&& ~~~BitVec.ofInt 64 (b : Int)).toNat : Int) = _
  rw [BitVec.toNat_and, BitVec.toNat_not, e1 a ha, e1 b hb, IntKind.wrap_u64]
  have e : 2 ^ 64 - 1 - b = 18446744073709551615 - b := by omega
  rw [e]
  omega
theorem testBit_not64 {b i : Nat} (hb : b < 18446744073709551616) (hi : i < 64) : (18446744073709551615 - b).testBit i = !b.testBit i := by
  have e : 18446744073709551615 - b = 2 ^ 64 - (b + 1) := by omega
  rw [e, Nat.testBit_two_pow_sub_succ (by simpa using hb)]
  simp [hi]
theorem put_word_out (p : Nat → Bool) {q r n : Nat} (hn : n = 64 * q + r) (hr : r < 64) : bits BinOp.andNot IntKind.u64 (wordOf p q) (IntKind.u64.wrap (2 ^ r)) = (wordOf (putP p n false) q : Nat) := by
  rw [wrap_pow hr, bits_andNot_u64_nat _ _ (wordOf_lt _ _) (pow_lt64 hr)]
  congr 1
  symm
  apply wordOf_eq
  · exact Nat.and_lt_two_pow (n := 64) _ (Nat.lt_of_le_of_lt (Nat.sub_le _ _) (by decide))
  · intro i hi
    rw [Nat.testBit_and, wordOf_bit p q hi, testBit_not64 (pow_lt64 hr) hi, Nat.testBit_two_pow]
    unfold putP
    by_cases e : r = i
    · subst e; simp [hn]
    · have : ¬ 64 * q + i = n := by omega
      simp [e, this]
theorem wordOf_put_other (p : Nat → Bool) {q j n : Nat} {b : Bool} (hn : n / 64 = q) (hj : j ≠ q) : wordOf (putP p n b) j = wordOf p j := by
  apply wordOf_eq (wordOf_lt _ _)
  intro i hi
  rw [wordOf_bit p j hi]
  unfold putP
  have : ¬ 64 * j + i = n := by omega
  simp [this]
theorem or_word (p q : Nat → Bool) (j : Nat) : bits BinOp.or IntKind.u64 (wordOf p j) (wordOf q j) = (wordOf (fun k => p k || q k) j : Nat) := by
  rw [bits_or_u64_nat _ _ (wordOf_lt _ _) (wordOf_lt _ _)]
  congr 1
  symm
  apply wordOf_eq (Nat.or_lt_two_pow (n := 64) (wordOf_lt p j) (wordOf_lt q j))
  intro i hi
  rw [Nat.testBit_or, wordOf_bit p j hi, wordOf_bit q j hi]
theorem and_word (p q : Nat → Bool) (j : Nat) : bits BinOp.and IntKind.u64 (wordOf p j) (wordOf q j) = (wordOf (fun k => p k && q k) j : Nat) := by
  rw [bits_and_u64_nat _ _ (wordOf_lt _ _) (wordOf_lt _ _)]
  congr 1
  symm
  apply wordOf_eq (Nat.and_lt_two_pow (n := 64) _ (wordOf_lt q j))
  intro i hi
  rw [Nat.testBit_and, wordOf_bit p j hi, wordOf_bit q j hi]
theorem andNot_word (p q : Nat → Bool) (j : Nat) : bits BinOp.andNot IntKind.u64 (wordOf p j) (wordOf q j) = (wordOf (fun k => p k && !q k) j : Nat) := by
  rw [bits_andNot_u64_nat _ _ (wordOf_lt _ _) (wordOf_lt _ _)]
  congr 1
  symm
  apply wordOf_eq (Nat.and_lt_two_pow (n := 64) _ (by omega))
  intro i hi
  rw [Nat.testBit_and, wordOf_bit p j hi, testBit_not64 (wordOf_lt _ _) hi, wordOf_bit q j hi]
theorem has_word (p : Nat → Bool) {q r n : Nat} (hn : n = 64 * q + r) (hr : r < 64) : (bits BinOp.and IntKind.u64 ((wordOf p q : Nat) / 2 ^ r) 1 == 1) = p n := by
  have e : ((wordOf p q : Nat) : Int) / 2 ^ r = ((wordOf p q / 2 ^ r : Nat) : Int) := by simp
  have hlt : wordOf p q / 2 ^ r < 18446744073709551616 := Nat.lt_of_le_of_lt (Nat.div_le_self _ _) (wordOf_lt p q)
  rw [e, show (1 : Int) = ((1 : Nat) : Int) from rfl, bits_and_u64_nat _ _ hlt (by omega)]
  have h := wordOf_bit p q hr
  rw [← hn] at h
  rw [← h, Nat.testBit_eq_decide_div_mod_eq, Nat.and_one_is_mod]
  have : wordOf p q / 2 ^ r % 2 = 0 ∨ wordOf p q / 2 ^ r % 2 = 1 := by omega
  rcases this with h | h <;> rw [h] <;> decide
/-- The set bits of a word, ascending. -/
def bitsOf (x : Nat) : List Nat := (List.range 64).filter x.testBit
theorem bitsOf_zero : bitsOf 0 = [] := by unfold bitsOf; simp
theorem and_pred (k m : Nat) : (2 ^ k * (2 * m + 1)) &&& (2 ^ k * (2 * m + 1) - 1) = 2 ^ (k + 1) * m := by
  apply Nat.eq_of_testBit_eq
  intro i
  have hp : 0 < 2 ^ k := Nat.pow_pos (by omega)
  have e1 : 2 ^ k * (2 * m + 1) - 1 = 2 ^ (k + 1) * m + (2 ^ k - 1) := by
    rw [Nat.mul_add, Nat.pow_succ, Nat.mul_one, Nat.mul_assoc]; omega
  have e2 : 2 ^ k * (2 * m + 1) = 2 ^ (k + 1) * m + 2 ^ k := by
    rw [Nat.mul_add, Nat.pow_succ, Nat.mul_one, Nat.mul_assoc]
  have l1 : 2 ^ k - 1 < 2 ^ (k + 1) := by rw [Nat.pow_succ]; omega
  have l2 : 2 ^ k < 2 ^ (k + 1) := by rw [Nat.pow_succ]; omega
  rw [Nat.testBit_and, e1, e2, Nat.testBit_two_pow_mul_add _ l1, Nat.testBit_two_pow_mul_add _ l2, Nat.testBit_two_pow_mul]
  by_cases h : i < k + 1
  · have : ¬ k + 1 ≤ i := by omega
    rw [if_pos h, if_pos h, Nat.testBit_two_pow, Nat.testBit_two_pow_sub_one]
    by_cases h2 : k = i
    · simp [h2]; omega
    · simp [h2]; omega
  · rw [if_neg h, if_neg h]
    have : k + 1 ≤ i := by omega
    simp [this]
theorem bitsOf_step {x : Nat} (h0 : x ≠ 0) (hx : x < 18446744073709551616) : bitsOf x = Lib.ctz 64 x :: bitsOf (x &&& (x - 1)) ∧ Lib.ctz 64 x < 64 := by
  obtain ⟨m, hm, hk⟩ := Lib.ctzFrom_spec 64 x (by omega) (by simpa using hx)
  have e : Lib.ctz 64 x = Lib.ctzFrom 64 x := by simp [Lib.ctz, h0]
  rw [e]
  refine ⟨?_, hk⟩
  generalize Lib.ctzFrom 64 x = k at *
  have ha := and_pred k m
  rw [← hm] at ha
  rw [ha]
  unfold bitsOf
  have hsp : List.range 64 = List.range k ++ k :: (List.range (63 - k)).map (· + (k + 1)) := by
    have : 64 = k + (1 + (63 - k)) := by omega
    rw [this, List.range_add, List.range_add]
    simp
    intro a _
    omega
  have bit : ∀ i, x.testBit i = if i < k + 1 then decide (k = i) else m.testBit (i - (k + 1)) := by
    intro i
    have e2 : x = 2 ^ (k + 1) * m + 2 ^ k := by rw [hm, Nat.mul_add, Nat.pow_succ, Nat.mul_one, Nat.mul_assoc]
    have l2 : 2 ^ k < 2 ^ (k + 1) := by rw [Nat.pow_succ]; have : 0 < 2 ^ k := Nat.pow_pos (by omega); omega
    rw [e2, Nat.testBit_two_pow_mul_add _ l2, Nat.testBit_two_pow]
  rw [hsp, List.filter_append, List.filter_append]
  have f1 : (List.range k).filter x.testBit = [] := by
    rw [List.filter_eq_nil_iff]
    intro i hi
    have : i < k := by simpa using hi
    rw [bit i, if_pos (by omega)]
    simp; omega
  have f2 : (List.range k).filter (2 ^ (k + 1) * m).testBit = [] := by
    rw [List.filter_eq_nil_iff]
    intro i hi
    have : i < k := by simpa using hi
    rw [Nat.testBit_two_pow_mul]
    simp; omega
  have hk1 : x.testBit k = true := by rw [bit k, if_pos (by omega)]; simp
  have hk2 : (2 ^ (k + 1) * m).testBit k = false := by rw [Nat.testBit_two_pow_mul]; simp; omega
  rw [f1, f2, List.nil_append, List.nil_append, List.filter_cons_of_pos hk1, List.filter_cons_of_neg (by rw [hk2]; simp)]
  congr 1
  apply List.filter_congr
  intro i hi
  obtain ⟨a, _, rfl⟩ := List.mem_map.1 hi
  rw [bit, if_neg (by omega), Nat.testBit_two_pow_mul]
  have : k + 1 ≤ a + (k + 1) := by omega
  simp
end Go.Proofs.YtpjmpkgllnomaaaDoor
/- Sets in memory: put. -/
namespace Go.Proofs.YtpjmpkgllnomaaaDoor
open Go.ChangeShapes Go.WideShapes Go.ChangeAt Go.RowKit Go.Deep
theorem within_is {n : Int} {b : Bool} (h : inB n = b) (w : World) : Calls Tryd.prog 36 #[.int .i64 n] w fun e w' => e = .returned (.bool b) ∧ w = w' := by
  subst h
  unfold inB
  by_cases h1 : 0 ≤ n
  · by_cases h2 : n < 512
    all_goals
      go_enter Tryd.func36, Tryd.ntmps36
      go_wp2
      go_ret
      simp [h1, h2]
  · go_enter Tryd.func36, Tryd.ntmps36
    go_wp2
    go_ret
    exact ⟨by simp; omega, rfl⟩
/-- The block g holds the eight words W. -/
def WordsAt (w : World) (g : Nat) (W : Nat → Nat) : Prop := ∃ ws, w.heap[g]? = some (.cells ws 68) ∧ ws.size = 8 ∧ ∀ q, q < 8 → ws[q]? = some (.int .u64 (W q))
theorem WordsAt.lt {w : World} {g : Nat} {W : Nat → Nat} (h : WordsAt w g W) : g < w.heap.size := by
  obtain ⟨ws, h, _⟩ := h
  rcases Nat.lt_or_ge g w.heap.size with hlt | hge
  · exact hlt
  · rw [Array.getElem?_eq_none hge] at h; cases h
theorem WordsAt.cell {w : World} {g : Nat} {W : Nat → Nat} (h : WordsAt w g W) {q : Nat} (hq : q < 8) : w.cell? ⟨g, q, none⟩ = some (.int .u64 (W q)) := by
  obtain ⟨ws, h, _, hw⟩ := h
  simp [World.cell?, h, hw q hq]
theorem WordsAt.frozen {w : World} {g : Nat} {W : Nat → Nat} (h : WordsAt w g W) (q : Nat) : w.frozen? ⟨g, q, none⟩ = false := by
  obtain ⟨ws, h, _, _⟩ := h
  simp [World.frozen?, h]
theorem WordsAt.set {w : World} {g : Nat} {W : Nat → Nat} (h : WordsAt w g W) {q : Nat} (hq : q < 8) (v : Nat) : WordsAt (w.setCell ⟨g, q, none⟩ (.int .u64 v)) g (fun j => if j = q then v else W j) := by
  obtain ⟨ws, h, hs, hw⟩ := h
  refine ⟨_, heap_setCell_same _ _ _ _ _ _ h, by simpa using hs, fun j hj => ?_⟩
  rw [Array.getElem?_setIfInBounds]
  by_cases e : q = j
  · subst e; simp [hs, hq]
  · have e2 : ¬ j = q := fun h => e h.symm
    simp [e, e2, hw j hj]
theorem WordsAt.drew {w : World} {g : Nat} {W : Nat → Nat} (h : WordsAt w g W) : WordsAt w.drew g W := h
theorem WordsAt.keep {w w' : World} {g : Nat} {W : Nat → Nat} {K : Nat → Prop} (h : WordsAt w g W) (hk : Keeps K w w') (hg : K g) : WordsAt w' g W := by
  have hlt := h.lt
  obtain ⟨ws, h, r⟩ := h
  exact ⟨ws, by rw [hk.block g hlt hg]; exact h, r⟩
set_option maxHeartbeats 1000000 in
theorem put_in (g q r : Nat) (n : Int) (W : Nat → Nat) (w : World) (h : WordsAt w g W) (h0 : 0 ≤ n) (h1 : n < 512) (hq : n / 64 = (q : Int)) (hr : n % 64 = (r : Int)) (V : Nat) (hV : bits BinOp.or IntKind.u64 (W q) (IntKind.u64.wrap (2 ^ r)) = V) :
    Calls Tryd.prog 41 #[.pointer (some ⟨g, 0, none⟩), .int .i64 n, .bool true] w fun e w' => e = .returned (.tuple #[]) ∧ WordsAt w' g (fun j => if j = q then V else W j) ∧ Keeps (fun b => b ≠ g) w w' := by
  have hin : inB n = true := by simp [inB, h0, h1]
  have HIN := hide hin
  have hq8 : q < 8 := by omega
  have hr8 : r < 64 := by omega
  have c0 := h.cell hq8
  have hgs := h.lt
  have hfz := h.frozen q
  have H := hide h
  have HV := hide hV
  clear hin h hV
  go_enter Tryd.func41, Tryd.ntmps41
  go_wp2_with (go_at_call 36; refine (within_is HIN.out _).mono ?_; rintro e w' ⟨rfl, rfl⟩)
  go_region
  go_wp2
  go_end0
  refine ⟨rfl, ?_, ((Keeps.refl _ _).setCell (.inl (fun h => h rfl)) _).drew⟩
  have := (H.out.set hq8 V).drew
  rw [← HV.out] at this
  exact this
set_option maxHeartbeats 1000000 in
theorem put_out (g q r : Nat) (n : Int) (W : Nat → Nat) (w : World) (h : WordsAt w g W) (h0 : 0 ≤ n) (h1 : n < 512) (hq : n / 64 = (q : Int)) (hr : n % 64 = (r : Int)) (V : Nat) (hV : bits BinOp.andNot IntKind.u64 (W q) (IntKind.u64.wrap (2 ^ r)) = V) :
    Calls Tryd.prog 41 #[.pointer (some ⟨g, 0, none⟩), .int .i64 n, .bool false] w fun e w' => e = .returned (.tuple #[]) ∧ WordsAt w' g (fun j => if j = q then V else W j) ∧ Keeps (fun b => b ≠ g) w w' := by
  have hin : inB n = true := by simp [inB, h0, h1]
  have HIN := hide hin
  have hq8 : q < 8 := by omega
  have hr8 : r < 64 := by omega
  have c0 := h.cell hq8
  have hgs := h.lt
  have hfz := h.frozen q
  have H := hide h
  have HV := hide hV
  clear hin h hV
  go_enter Tryd.func41, Tryd.ntmps41
  go_wp2_with (go_at_call 36; refine (within_is HIN.out _).mono ?_; rintro e w' ⟨rfl, rfl⟩)
  go_region
  go_wp2
  go_end0
  refine ⟨rfl, ?_, ((Keeps.refl _ _).setCell (.inl (fun h => h rfl)) _).drew⟩
  have := (H.out.set hq8 V).drew
  rw [← HV.out] at this
  exact this
set_option maxHeartbeats 1000000 in
theorem put_not (A : Option Addr) (n : Int) (b : Bool) (w : World) (hn : inB n = false) :
    Calls Tryd.prog 41 #[.pointer A, .int .i64 n, .bool b] w fun e w' => e = .returned (.tuple #[]) ∧ w = w' := by
  have HIN := hide hn
  clear hn
  obtain ⟨m, hm⟩ : ∃ m : Nat, IntKind.u64.wrap n = (m : Int) := by rw [IntKind.wrap_u64]; exact ⟨(n % 18446744073709551616).toNat, by omega⟩
  obtain ⟨r, hr⟩ : ∃ r : Nat, (m : Int) % 64 = (r : Int) := ⟨m % 64, by omega⟩
  have hr64 : r < 64 := by omega
  go_enter Tryd.func41, Tryd.ntmps41
  go_wp2_with (go_at_call 36; refine (within_is HIN.out _).mono ?_; rintro e w' ⟨rfl, rfl⟩)
  go_end0
  exact ⟨rfl, rfl⟩
end Go.Proofs.YtpjmpkgllnomaaaDoor
/- Sets in memory: of, has. -/
namespace Go.Proofs.YtpjmpkgllnomaaaDoor
open Go.ChangeShapes Go.WideShapes Go.ChangeAt Go.RowKit Go.Deep
def SetAt (w : World) (g : Nat) (p : Nat → Bool) : Prop := WordsAt w g (wordOf p)
theorem WordsAt.congr {w : World} {g : Nat} {W W' : Nat → Nat} (h : WordsAt w g W) (e : ∀ j, j < 8 → W j = W' j) : WordsAt w g W' := by
  obtain ⟨ws, h1, h2, h3⟩ := h
  exact ⟨ws, h1, h2, fun q hq => by rw [← e q hq]; exact h3 q hq⟩
def putI (p : Nat → Bool) (n : Int) (b : Bool) : Nat → Bool := if inB n then putP p n.toNat b else p
theorem put_any (g : Nat) (n : Int) (b : Bool) (p : Nat → Bool) (w : World) (h : SetAt w g p) :
    Calls Tryd.prog 41 #[.pointer (some ⟨g, 0, none⟩), .int .i64 n, .bool b] w fun e w' => e = .returned (.tuple #[]) ∧ SetAt w' g (putI p n b) ∧ Keeps (fun b => b ≠ g) w w' := by
  cases hin : inB n
  · refine (put_not _ n b w hin).mono fun e w' ⟨h1, h2⟩ => ?_
    subst h2
    refine ⟨h1, ?_, Keeps.refl _ _⟩
    unfold putI; rw [hin]; exact h
  · have h01 : 0 ≤ n ∧ n < 512 := by simpa [inB] using hin
    obtain ⟨m, rfl⟩ := Int.eq_ofNat_of_zero_le h01.1
    have hm : m = 64 * (m / 64) + m % 64 := by omega
    have hr : m % 64 < 64 := by omega
    have fin : ∀ b, ∀ w', WordsAt w' g (fun j => if j = m / 64 then wordOf (putP p m b) (m / 64) else wordOf p j) → SetAt w' g (putI p (m : Int) b) := fun b w' h => by
      unfold putI; rw [hin]
      refine h.congr fun j _ => ?_
      by_cases e : j = m / 64
      · rw [if_pos e, e]; rfl
      · rw [if_neg e]; exact (wordOf_put_other p rfl e).symm
    cases b
    · exact (put_out g (m / 64) (m % 64) m _ w h h01.1 h01.2 (by omega) (by omega) _ (put_word_out p hm hr)).mono fun e w' ⟨h1, h2, h3⟩ => ⟨h1, fin _ _ h2, h3⟩
    · exact (put_in g (m / 64) (m % 64) m _ w h h01.1 h01.2 (by omega) (by omega) _ (put_word_in p hm hr)).mono fun e w' ⟨h1, h2, h3⟩ => ⟨h1, fin _ _ h2, h3⟩
/-- The elements of a list, as a predicate. -/
def memP (l : List Int) : Nat → Bool := fun k => decide ((k : Int) ∈ l) && decide (k < 512)
theorem memP_nil : memP [] = fun _ => false := by funext k; simp [memP]
theorem memP_snoc (l : List Int) (n : Int) : putI (memP l) n true = memP (l ++ [n]) := by
  funext k
  unfold putI
  cases h : inB n
  · rw [if_neg (by simp)]
    have : ¬ (0 ≤ n ∧ n < 512) := by simpa [inB] using h
    unfold memP
    by_cases h2 : (k : Int) = n
    · have : ¬ k < 512 := by omega
      simp [this]
    · simp [h2]
  · have h01 : 0 ≤ n ∧ n < 512 := by simpa [inB] using h
    rw [if_pos rfl]
    unfold putP memP
    by_cases h2 : k = n.toNat
    · have e : (k : Int) = n := by omega
      have : k < 512 := by omega
      simp [h2]; omega
    · have e : ¬ (k : Int) = n := by omega
      simp [h2, e]
theorem wordOf_false (j : Nat) : wordOf (fun _ => false) j = 0 := wordOf_eq (by omega) (fun i _ => by simp)
theorem SetAt.keep {w w' : World} {g : Nat} {p : Nat → Bool} {K : Nat → Prop} (h : SetAt w g p) (hk : Keeps K w w') (hg : K g) : SetAt w' g p := WordsAt.keep h hk hg
theorem SetAt.below {w w' : World} {g B : Nat} {p : Nat → Bool} (h : SetAt w g p) (hb : Below B w w') (hg : g < B) : SetAt w' g p := by
  obtain ⟨ws, h, r⟩ := h
  exact ⟨ws, by rw [hb.block g hg]; exact h, r⟩
theorem SetAt.new (w : World) : SetAt (w.alloc (.cells #[.int .u64 0, .int .u64 0, .int .u64 0, .int .u64 0, .int .u64 0, .int .u64 0, .int .u64 0, .int .u64 0] 68)) w.heap.size (fun _ => false) := by
  refine ⟨#[.int .u64 0, .int .u64 0, .int .u64 0, .int .u64 0, .int .u64 0, .int .u64 0, .int .u64 0, .int .u64 0], Array.getElem?_push_size, rfl, fun q hq => ?_⟩
  rw [wordOf_false]
  match q, hq with
  | 0, _ | 1, _ | 2, _ | 3, _ | 4, _ | 5, _ | 6, _ | 7, _ => rfl
set_option maxHeartbeats 1000000 in
theorem of_any (v : Value) (l : List Int) (w : World) (hv : Holds w (fun b => b < w.heap.size) 1 v l.length (l.map (Value.int .i64))) :
    Calls Tryd.prog 37 #[v] w fun e w' => e = .returned (.pointer (some ⟨w.heap.size, 0, none⟩)) ∧ SetAt w' w.heap.size (memP l) ∧ Below w.heap.size w w' := by
  have HV := hide hv
  have HN := hide (SetAt.new w)
  obtain ⟨A, c, rfl, hc1, hc2, _, _⟩ := hv
  unfold maxLen at hc2
  go_enter Tryd.func37, Tryd.ntmps37
  go_wp2
  go_loopw [10] (fun i wr => ∃ k : Nat, k ≤ l.length ∧ i = .int .i64 k ∧ Hid (SetAt wr w.heap.size (memP (l.take k))) ∧ Hid (Below w.heap.size w wr)) (fun i _ => l.length - (intOf i).toNat)
  case atStart => exact ⟨0, by omega, rfl, hide (by rw [List.take_zero, memP_nil]; exact HN.out), hide ((Below.refl _ _).alloc (Nat.le_refl _) _)⟩
  case round =>
    obtain ⟨k, hk, rfl, HS, HB⟩ := hrel
    by_cases hlt : k < l.length
    · have hd : (k : Int) < (l.length : Int) := by omega
      obtain ⟨b, o, rfl, hSb, hx⟩ := (HV.out.below HB.out (fun b h => h)).atInt hlt
      go_wp2_with fail
      refine (put_any _ _ _ _ _ HS.out).mono ?_
      rintro e w' ⟨rfl, hs, hkp⟩
      rw [memP_snoc, ← List.take_succ_eq_append_getElem hlt] at hs
      have HS2 := hide hs
      have HB2 := hide (HB.out.trans (hkp.below (fun b hb => by omega) HB.out.size))
      clear hs hkp
      go_wp2
      go_roundw
      case rel => exact ⟨k + 1, by omega, by go_num, HS2, HB2⟩
      case measure => simp only [intOf]; omega
    · have hd : ¬ (k : Int) < (l.length : Int) := by omega
      go_wp2
      go_ret
      exact ⟨rfl, by have := HS.out; rwa [List.take_of_length_le (by omega)] at this, HB.out⟩
set_option maxHeartbeats 1000000 in
theorem has_in (g q r : Nat) (n : Int) (p : Nat → Bool) (w : World) (h : SetAt w g p) (h0 : 0 ≤ n) (h1 : n < 512) (hq : n / 64 = (q : Int)) (hr : n % 64 = (r : Int)) :
    Calls Tryd.prog 38 #[.pointer (some ⟨g, 0, none⟩), .int .i64 n] w fun e w' => e = .returned (.bool (p n.toNat)) ∧ w = w' := by
  have hin : inB n = true := by simp [inB, h0, h1]
  have HIN := hide hin
  have hq8 : q < 8 := by omega
  have hr8 : r < 64 := by omega
  have c0 := WordsAt.cell h hq8
  have hgs := WordsAt.lt h
  have HW := hide (has_word p (q := q) (r := r) (n := n.toNat) (by omega) hr8)
  clear hin h
  go_enter Tryd.func38, Tryd.ntmps38
  go_wp2_with (go_at_call 36; refine (within_is HIN.out _).mono ?_; rintro e w' ⟨rfl, rfl⟩)
  go_ret
  exact ⟨by rw [← HW.out]; rfl, rfl⟩
set_option maxHeartbeats 1000000 in
theorem has_not (A : Option Addr) (n : Int) (w : World) (hn : inB n = false) :
    Calls Tryd.prog 38 #[.pointer A, .int .i64 n] w fun e w' => e = .returned (.bool false) ∧ w = w' := by
  have HIN := hide hn
  clear hn
  go_enter Tryd.func38, Tryd.ntmps38
  go_wp2_with (go_at_call 36; refine (within_is HIN.out _).mono ?_; rintro e w' ⟨rfl, rfl⟩)
  go_ret
  exact ⟨rfl, rfl⟩
def hasI (p : Nat → Bool) (n : Int) : Bool := inB n && p n.toNat
theorem has_any (g : Nat) (n : Int) (p : Nat → Bool) (w : World) (h : SetAt w g p) :
    Calls Tryd.prog 38 #[.pointer (some ⟨g, 0, none⟩), .int .i64 n] w fun e w' => e = .returned (.bool (hasI p n)) ∧ w = w' := by
  cases hin : inB n
  · exact (has_not _ n w hin).mono fun e w' ⟨h1, h2⟩ => ⟨by rw [h1]; simp [hasI, hin], h2⟩
  · have h01 : 0 ≤ n ∧ n < 512 := by simpa [inB] using hin
    exact (has_in g (n / 64).toNat (n % 64).toNat n p w h h01.1 h01.2 (by omega) (by omega)).mono fun e w' ⟨h1, h2⟩ => ⟨by rw [h1]; simp [hasI, hin], h2⟩
end Go.Proofs.YtpjmpkgllnomaaaDoor
/- Sets in memory: with, by or, and, and-not. -/
namespace Go.Proofs.YtpjmpkgllnomaaaDoor
open Go.ChangeShapes Go.WideShapes Go.ChangeAt Go.RowKit Go.Deep
end Go.Proofs.YtpjmpkgllnomaaaDoor
/- Sets in memory: list (the table of math/bits: a premise). -/
namespace Go.Proofs.YtpjmpkgllnomaaaDoor
open Go.ChangeShapes Go.WideShapes Go.ChangeAt Go.RowKit Go.Deep
/-- The table of math/bits stands in block 0. -/
def Tab (w : World) : Prop := ∀ j, j < 64 → w.cell? ⟨0, j, none⟩ = some (.int .u8 ((Lib.deBruijn64tab.getD j 0 : Nat) : Int))
theorem Tab.pos {w : World} (h : Tab w) : 0 < w.heap.size := World.block_lt_of_cell? _ _ (h 0 (by omega))
theorem Tab.below {w w' : World} {B : Nat} (h : Tab w) (hb : Below B w w') (hB : 0 < B) : Tab w' := fun j hj => by rw [← h j hj]; exact Below.cell hb hB
theorem Tab.below' {w w' : World} (h : Tab w) (hb : Below w.heap.size w w') : Tab w' := h.below hb h.pos
theorem Tab.keep {w w' : World} {K : Nat → Prop} (h : Tab w) (hk : Keeps K w w') (h0 : K 0) : Tab w' := fun j hj => by rw [← h j hj]; exact hk.cell h0 h.pos
theorem tz_key (x a : Nat) (hx : x < 18446744073709551616) (hx0 : x ≠ 0) (hlow : x &&& (18446744073709551616 - x) = a) :
    IntKind.u64.wrap (bits BinOp.and IntKind.u64 (x : Int) (IntKind.u64.wrap (-(x : Int))) * 285870213051353865) / 288230376151711744 = ((a * 285870213051353865 % 18446744073709551616 / 288230376151711744 : Nat) : Int) := by
  have e1 : IntKind.u64.wrap (-(x : Int)) = ((18446744073709551616 - x : Nat) : Int) := by rw [IntKind.wrap_u64]; omega
  rw [e1, bits_and_u64_nat x _ hx (by omega), hlow, IntKind.wrap_u64]
  omega
set_option maxHeartbeats 1000000 in
theorem tz_core (x k idx : Nat) (w : World) (hx0 : ((x : Int) == 0) = false)
    (key : IntKind.u64.wrap (bits BinOp.and IntKind.u64 (x : Int) (IntKind.u64.wrap (-(x : Int))) * 285870213051353865) / 288230376151711744 = (idx : Int))
    (hi : idx < 64) (hk : k < 64) (hcell : w.cell? ⟨0, idx, none⟩ = some (.int .u8 k)) :
    Calls Tryd.prog 47 #[.int .u64 x] w fun e w' => e = .returned (.int .i64 k) ∧ w = w' := by
  go_enter Tryd.func47, Tryd.ntmps47
  go_wp2_with (simp only [key])
  go_ret
  exact ⟨rfl, rfl⟩
theorem tz_any (x : Nat) (hx : x < 18446744073709551616) (hx0 : x ≠ 0) (w : World) (hT : Tab w) :
    Calls Tryd.prog 47 #[.int .u64 x] w fun e w' => e = .returned (.int .i64 (Lib.ctz 64 x)) ∧ w = w' := by
  obtain ⟨hlow, hk⟩ := Lib.lowest_bit 64 x hx0 hx
  obtain ⟨hi, htab⟩ := Lib.deBruijn64_at _ hk
  refine tz_core x (Lib.ctz 64 x) _ w (by simp; omega) (tz_key x _ hx hx0 hlow) hi hk ?_
  have := hT _ hi
  rw [htab] at this
  exact this
/-- The elements of a set, ascending. -/
def listP (p : Nat → Bool) : List Int := ((List.range 512).filter p).map (fun k : Nat => (k : Int))
def wordsL (p : Nat → Bool) (j : Nat) : List Int := ((List.range (64 * j)).filter p).map (fun k : Nat => (k : Int))
def wordL (j x : Nat) : List Int := (bitsOf x).map (fun i : Nat => ((64 * j + i : Nat) : Int))
theorem wordsL_zero (p : Nat → Bool) : wordsL p 0 = [] := rfl
theorem wordsL_succ (p : Nat → Bool) (j : Nat) : wordsL p j ++ wordL j (wordOf p j) = wordsL p (j + 1) := by
  unfold wordsL wordL bitsOf
  rw [Nat.mul_succ, List.range_add, List.filter_append, List.map_append]
  congr 1
  rw [List.filter_map, List.map_map]
  have : (List.range 64).filter (wordOf p j).testBit = (List.range 64).filter (p ∘ fun x => 64 * j + x) := by
    apply List.filter_congr
    intro i hi
    exact wordOf_bit p j (by simpa using hi)
  rw [this]
  rfl
theorem wordL_zero (j : Nat) : wordL j 0 = [] := by unfold wordL; rw [bitsOf_zero]; rfl
theorem wordL_step (j : Nat) {x : Nat} (h0 : x ≠ 0) (hx : x < 18446744073709551616) : wordL j x = ((64 * j + Lib.ctz 64 x : Nat) : Int) :: wordL j (x &&& (x - 1)) := by
  unfold wordL; rw [(bitsOf_step h0 hx).1]; rfl
theorem wordsL_length (p : Nat → Bool) (j : Nat) (hj : j ≤ 8) : (wordsL p j).length ≤ 512 := by
  unfold wordsL
  rw [List.length_map]
  exact Nat.le_trans (List.length_filter_le _ _) (by simp; omega)
theorem and_pred_bits {x : Nat} (h0 : x ≠ 0) (hx : x < 18446744073709551616) : bits BinOp.and IntKind.u64 (x : Int) ((x : Int) - 1) = ((x &&& (x - 1) : Nat) : Int) := by
  have e : (x : Int) - 1 = ((x - 1 : Nat) : Int) := by omega
  rw [e, bits_and_u64_nat _ _ hx (by omega)]
set_option maxHeartbeats 1000000 in
theorem list_any (g : Nat) (p : Nat → Bool) (w : World) (h : SetAt w g p) (hT : Tab w) :
    Calls Tryd.prog 42 #[.pointer (some ⟨g, 0, none⟩)] w fun e w' => (∃ r, e = .returned r ∧ Row w' w.heap.size r (listP p)) ∧ Below w.heap.size w w' := by
  have H := hide h
  have HT := hide hT
  have hg := WordsAt.lt h
  clear h hT
  go_enter Tryd.func42, Tryd.ntmps42
  go_wp2
  go_loopw [3, 7] (fun r i wr => ∃ k : Nat, k ≤ 8 ∧ i = .int .i64 k ∧ Hid (Row wr w.heap.size r (wordsL p k)) ∧ Hid (Below w.heap.size w wr)) (fun _ i _ => 8 - (intOf i).toNat)
  case atStart => exact ⟨0, by omega, rfl, hide (by rw [wordsL_zero]; exact Row.nil _ _), hide (Below.refl _ _)⟩
  case round =>
    obtain ⟨k, hk, rfl, HO, HB⟩ := hrel
    by_cases hlt : k < 8
    · have hd : (k : Int) < 8 := by omega
      have c1 := WordsAt.cell (H.out.below HB.out hg) hlt
      go_wp2
      go_quiet (fail)
      go_wp2
      go_loopw [3, 5] (fun r i wx => ∃ (x : Nat) (out : List Int), x < 18446744073709551616 ∧ i = .int .u64 x ∧ Hid (Row wx w.heap.size r out) ∧ Hid (out ++ wordL k x = wordsL p (k + 1)) ∧ Hid (Below w.heap.size w wx)) (fun _ i _ => (intOf i).toNat)
      case atStart => exact ⟨_, _, wordOf_lt p k, rfl, hide (Row.below HO.out (below_drewN2 (Below.refl _ _) _)), hide (wordsL_succ p k), hide (below_drewN2 HB.out _)⟩
      case round =>
        clear HO HB
        obtain ⟨x, out, hx, rfl, HO, HE, HB⟩ := hrel
        by_cases hx0 : x = 0
        · subst hx0
          have HE2 := HE.out
          rw [wordL_zero, List.append_nil] at HE2
          subst HE2
          go_wp2
          exact ⟨⟨k + 1, by omega, by go_num, HO, HB⟩, by simp only [intOf]; omega⟩
        · have hd0 : ((x : Int) != 0) = true := by simp; omega
          have hw := HE.out
          rw [wordL_step k hx0 hx] at hw
          have hol : out.length ≤ 512 := by
            have h1 := congrArg List.length hw
            have h2 := wordsL_length p (k + 1) (by omega)
            rw [List.length_append] at h1
            omega
          have HW := hide hw
          have hap := and_pred_bits hx0 hx
          have HTr := hide (HT.out.below HB.out HT.out.pos)
          have hcz := (bitsOf_step hx0 hx).2
          have hlt2 : x &&& (x - 1) < x := Nat.lt_of_le_of_lt Nat.and_le_right (by omega)
          clear hw
          go_wp2_with (first | (go_at_call 47; refine (tz_any _ hx hx0 _ HTr.out).mono ?_; rintro e w' ⟨rfl, rfl⟩) | (at_builtin; refine app_int rfl _ _ rfl _ _ _ _ _ rfl rfl HO.out (by omega) HB.out.size ?_))
          rintro v' w' hr hkp
          have HR := hide hr
          have HBx := hide (below_app HB.out HO.out hkp)
          clear hr hkp
          go_wp2
          go_roundw
          case rel =>
            refine ⟨x &&& (x - 1), _, by omega, rfl, HR, hide ?_, HBx⟩
            have := HW.out
            rw [← this]
            simp
          case measure => simp only [intOf]; omega
    · have hd : ¬ (k : Int) < 8 := by omega
      have : k = 8 := by omega
      subst this
      go_wp2
      go_ret
      exact ⟨⟨_, rfl, HO.out⟩, HB.out⟩
end Go.Proofs.YtpjmpkgllnomaaaDoor
/- The package bitset. -/
namespace Go.Proofs.YtpjmpkgllnomaaaDoor
open Go.ChangeShapes Go.WideShapes Go.ChangeAt Go.RowKit Go.Deep
set_option maxHeartbeats 1000000 in
theorem Has_any (v : Value) (l : List Int) (n : Int) (w : World) (hv : Holds w (fun b => b < w.heap.size) 1 v l.length (l.map (Value.int .i64))) :
    Calls Tryd.prog 28 #[v, .int .i64 n] w fun e w' => e = .returned (.bool (hasI (memP l) n)) ∧ Below w.heap.size w w' := by
  have H := hide (of_any v l w hv)
  clear hv
  go_enter Tryd.func28, Tryd.ntmps28
  go_wp2_with fail
  refine H.out.mono ?_
  rintro e w1 ⟨rfl, hs, hb⟩
  have HS := hide hs
  have HB := hide hb
  clear hs hb
  go_wp2_with fail
  refine (has_any _ _ _ _ HS.out).mono ?_
  rintro e w2 ⟨rfl, rfl⟩
  go_wp2
  go_ret
  exact ⟨rfl, HB.out⟩
set_option maxHeartbeats 1000000 in
theorem Add_any (v : Value) (l : List Int) (n : Int) (w : World) (hv : Holds w (fun b => b < w.heap.size) 1 v l.length (l.map (Value.int .i64))) (hT : Tab w) :
    Calls Tryd.prog 30 #[v, .int .i64 n] w fun e w' => (∃ r, e = .returned r ∧ Row w' w.heap.size r (listP (putI (memP l) n true))) ∧ Below w.heap.size w w' := by
  have H := hide (of_any v l w hv)
  have HT := hide hT
  clear hv hT
  go_enter Tryd.func30, Tryd.ntmps30
  go_wp2_with fail
  refine H.out.mono ?_
  rintro e w1 ⟨rfl, hs, hb⟩
  have HS := hide hs
  have HB := hide hb
  have HT1 := hide (HT.out.below' hb)
  clear hs hb
  go_wp2_with fail
  refine (put_any _ _ _ _ _ HS.out).mono ?_
  rintro e wx ⟨rfl, hs, hk⟩
  have HS2 := hide hs
  have HBx := hide (HB.out.trans (hk.below (fun b hb => by omega) HB.out.size))
  have HT2 := hide (HT.out.below' HBx.out)
  clear hs hk
  go_wp2_with fail
  refine (list_any _ _ _ HS2.out HT2.out).mono ?_
  rintro e w2 ⟨⟨r, rfl, hr⟩, hb2⟩
  have HR := hide (hr.lower HBx.out.size)
  have HB2 := hide (HBx.out.trans (hb2.mono HBx.out.size))
  clear hr hb2
  go_wp2
  go_ret
  exact ⟨⟨_, rfl, HR.out⟩, HB2.out⟩
set_option maxHeartbeats 1000000 in
theorem Check_any (v : Value) (l : List Int) (S : Nat → Prop) (w : World) (hv : Holds w S 1 v l.length (l.map (Value.int .i64))) :
    Calls Tryd.prog 27 #[v] w fun e w' => e = .returned (.bool (checkL l)) ∧ w = w' := by
  have HV := hide hv

  obtain ⟨A, c, rfl, hc1, hc2, _, _⟩ := hv
  unfold maxLen at hc2
  go_enter Tryd.func27, Tryd.ntmps27
  go_wp2
  go_loop [7] (fun i => ∃ k : Nat, k ≤ l.length ∧ i = .int .i64 k ∧ Hid (∀ j, j < k → okAt l j = true)) (fun i => l.length - (intOf i).toNat)
  case atStart => exact ⟨0, by omega, rfl, hide (fun j h => by omega)⟩
  case round =>
    obtain ⟨k, hk, rfl, HA⟩ := hrel
    by_cases hlt : k < l.length
    · have hd : (k : Int) < (l.length : Int) := by omega
      obtain ⟨b, o, rfl, hSb, hx⟩ := HV.out.atInt hlt
      cases hin : inB l[k]
      · have HX := hide hin
        have HF : Hid (checkL l = false) := hide (checkL_bad hlt (by unfold okAt; simp [List.getD, hlt, hin]))
        go_wp2_with (first | (go_at_call 36; refine (within_is HX.out _).mono ?_; rintro e w' ⟨rfl, rfl⟩))
        go_ret
        exact ⟨by rw [HF.out]; rfl, rfl⟩
      · have HX := hide hin
        have step : okAt l k = true → Hid (∀ j, j < k + 1 → okAt l j = true) := fun h => hide (fun j hj => by
          by_cases e : j = k
          · subst e; exact h
          · exact HA.out j (by omega))
        rcases Nat.eq_zero_or_pos k with rfl | hpos
        · simp only [Nat.add_zero] at hx
          have hp : ¬ ((0 : Nat) : Int) > 0 := by omega
          have HA2 := step (by rw [okAt_zero hlt]; exact hin)
          clear step
          go_wp2_with (first | (go_at_call 36; refine (within_is HX.out _).mono ?_; rintro e w' ⟨rfl, rfl⟩))
          go_round
          case rel => exact ⟨_, by omega, by go_num, HA2⟩
          case measure => simp only [intOf]; omega
        · obtain ⟨j, rfl⟩ : ∃ j, k = j + 1 := ⟨k - 1, by omega⟩
          have hp : ((j + 1 : Nat) : Int) > 0 := by omega
          have hj : (0 : Int) ≤ (j : Int) := by omega
          have hjl : j < l.length := by omega
          have hd2 : (j : Int) < (l.length : Int) := by omega
          obtain ⟨b', o', he', _, hx0⟩ := HV.out.atInt hjl
          injection he' with he'
          injection he' with e1 e2
          subst e1; subst e2
          by_cases hcmp : l[j + 1] ≤ l[j]
          · have HF : Hid (checkL l = false) := hide (checkL_bad hlt (by rw [okAt_succ hlt]; simp; omega))
            clear step
            go_wp2_with (first | (go_at_call 36; refine (within_is HX.out _).mono ?_; rintro e w' ⟨rfl, rfl⟩))
            go_ret
            exact ⟨by rw [HF.out]; rfl, rfl⟩
          · have HA2 := step (by rw [okAt_succ hlt]; simp [hin]; omega)
            clear step
            go_wp2_with (first | (go_at_call 36; refine (within_is HX.out _).mono ?_; rintro e w' ⟨rfl, rfl⟩))
            go_round
            case rel => exact ⟨_, by omega, by go_num, HA2⟩
            case measure => simp only [intOf]; omega
    · have hd : ¬ (k : Int) < (l.length : Int) := by omega
      have HF : Hid (checkL l = true) := hide (checkL_ok (fun j hj => HA.out j (by omega)))
      go_wp2
      go_ret
      exact ⟨by rw [HF.out]; rfl, rfl⟩
end Go.Proofs.YtpjmpkgllnomaaaDoor
/- The reference of sets: Meet, Minus, Of, Union, Within. -/
namespace Go.Proofs.YtpjmpkgllnomaaaDoor
open Go.ChangeShapes Go.WideShapes Go.ChangeAt Go.RowKit Go.Deep
set_option maxHeartbeats 1000000 in
theorem rMinus_any (v u : Value) (l m : List Int) (w : World) (hv : Holds w (fun b => b < w.heap.size) 1 v l.length (l.map (Value.int .i64))) (hu : Holds w (fun b => b < w.heap.size) 1 u m.length (m.map (Value.int .i64))) (hlen : l.length ≤ 100000) :
    Calls Tryd.prog 43 #[v, u] w fun e w' => (∃ r, e = .returned r ∧ Row w' w.heap.size r (minusL l m)) ∧ Below w.heap.size w w' := by
  have HV := hide hv
  have HU := hide hu
  obtain ⟨A, c, rfl, hc1, hc2, _, _⟩ := hv
  unfold maxLen at hc2
  clear hu
  go_enter Tryd.func43, Tryd.ntmps43
  go_wp2
  go_loopw [5, 6] (fun r i wr => ∃ (k : Nat), k ≤ l.length ∧ i = .int .i64 k ∧ Hid (Row wr w.heap.size r (minusL (l.take k) m)) ∧ Hid (Below w.heap.size w wr)) (fun _ i _ => l.length - (intOf i).toNat)
  case atStart => exact ⟨0, by omega, rfl, hide (Row.nil _ _), hide (Below.refl _ _)⟩
  case round =>
    obtain ⟨k, hk, rfl, HO, HB⟩ := hrel
    by_cases hlt : k < l.length
    · have hd : (k : Int) < (l.length : Int) := by omega
      obtain ⟨b, o, rfl, hSb, hx⟩ := (HV.out.below HB.out (fun b h => h)).atInt hlt
      have HUr := hide (HU.out.below HB.out (fun b h => h))
      cases he : hasL m l[k]
      · have HX := hide he
        go_wp2_with (first | (go_at_call 32; refine (rHas_any _ _ _ _ _ HUr.out).mono ?_; rw [HX.out]; rintro e w' ⟨rfl, rfl⟩) | (at_builtin; refine app_int rfl _ _ rfl _ _ _ _ _ rfl rfl HO.out (Nat.le_trans filter_take_le (by omega)) HB.out.size ?_))
        rintro v' w' hr hkp
        have HR := hide hr
        have HBx := hide (below_app HB.out HO.out hkp)
        clear hr hkp
        go_wp2
        go_roundw
        case rel =>
          refine ⟨k + 1, by omega, by go_num, ?_, HBx⟩
          unfold minusL; rw [filter_take_yes hlt (by simp [HX.out])]; exact HR
        case measure => simp only [intOf]; omega
      · have HX := hide he
        go_wp2_with (first | (go_at_call 32; refine (rHas_any _ _ _ _ _ HUr.out).mono ?_; rw [HX.out]; rintro e w' ⟨rfl, rfl⟩))
        go_roundw
        case rel =>
          refine ⟨k + 1, by omega, by go_num, ?_, HB⟩
          unfold minusL; rw [filter_take_no hlt (by simp [HX.out])]; exact HO
        case measure => simp only [intOf]; omega
    · have hd : ¬ (k : Int) < (l.length : Int) := by omega
      go_wp2
      go_ret
      exact ⟨⟨_, rfl, by have := HO.out; unfold minusL at this; rwa [filter_take_all hk hlt] at this⟩, HB.out⟩
def withinL (a b : List Int) : Bool := (minusL a b).isEmpty
set_option maxHeartbeats 400000 in
theorem rWithin_any (v u : Value) (l m : List Int) (w : World) (hv : Holds w (fun b => b < w.heap.size) 1 v l.length (l.map (Value.int .i64))) (hu : Holds w (fun b => b < w.heap.size) 1 u m.length (m.map (Value.int .i64))) (hlen : l.length ≤ 100000) :
    Calls Tryd.prog 33 #[v, u] w fun e w' => e = .returned (.bool (withinL l m)) ∧ Below w.heap.size w w' := by
  have H := hide (rMinus_any v u l m w hv hu hlen)
  clear hv hu
  go_enter Tryd.func33, Tryd.ntmps33
  go_wp2_with fail
  refine H.out.mono ?_
  rintro e w' ⟨⟨r, rfl, hr⟩, hb⟩
  obtain ⟨A, c, rfl, _, hc2, _, _⟩ := hr.holds
  have HL : Hid ((((minusL l m).length : Int) == 0) = withinL l m) := hide (by unfold withinL; cases minusL l m <;> simp; omega)
  clear hr H
  go_wp2
  go_ret
  exact ⟨by rw [← HL.out]; rfl, hb⟩
end Go.Proofs.YtpjmpkgllnomaaaDoor
/- Sets as ascending lists: the reference's lists and the bits' lists are the same. No program in sight. -/
namespace Go.Proofs.YtpjmpkgllnomaaaDoor
open Go
def Asc (l : List Int) : Prop := l.Pairwise (· < ·)
theorem inB_iff {n : Int} : inB n = true ↔ 0 ≤ n ∧ n < 512 := by simp [inB]
theorem asc_eq : ∀ {a b : List Int}, Asc a → Asc b → (∀ x, x ∈ a ↔ x ∈ b) → a = b
  | [], [], _, _, _ => rfl
  | [], b :: ys, _, _, h => by have := (h b).2 (List.mem_cons_self ..); cases this
  | a :: xs, [], _, _, h => by have := (h a).1 (List.mem_cons_self ..); cases this
  | a :: xs, b :: ys, ha, hb, h => by
    have ha' := List.pairwise_cons.1 ha
    have hb' := List.pairwise_cons.1 hb
    have e : a = b := by
      have h1 := (h a).1 (List.mem_cons_self ..)
      have h2 := (h b).2 (List.mem_cons_self ..)
      rcases List.mem_cons.1 h1 with h1 | h1
      · exact h1
      · rcases List.mem_cons.1 h2 with h2 | h2
        · exact h2.symm
        · have := hb'.1 a h1; have := ha'.1 b h2; omega
    subst e
    congr 1
    refine asc_eq ha'.2 hb'.2 fun x => ?_
    have hx := h x
    constructor
    · intro hm
      rcases List.mem_cons.1 (hx.1 (List.mem_cons_of_mem _ hm)) with e | hm2
      · subst e; have := ha'.1 x hm; omega
      · exact hm2
    · intro hm
      rcases List.mem_cons.1 (hx.2 (List.mem_cons_of_mem _ hm)) with e | hm2
      · subst e; have := hb'.1 x hm; omega
      · exact hm2
theorem mem_insL {n x : Int} {l : List Int} : x ∈ insL n l ↔ x = n ∨ x ∈ l := by
  induction l with
  | nil => simp [insL]
  | cons a l ih =>
    unfold insL
    split
    · split
      · simp
      · have : n = a := by omega
        subst this; simp
    · simp only [List.mem_cons, ih]
      constructor
      · rintro (h | h | h) <;> simp [h]
      · rintro (h | h | h) <;> simp [h]
theorem asc_insL {n : Int} {l : List Int} (h : Asc l) : Asc (insL n l) := by
  induction l with
  | nil => simp [insL, Asc]
  | cons a l ih =>
    have h' := List.pairwise_cons.1 h
    unfold insL
    split
    · split
      · refine List.pairwise_cons.2 ⟨fun x hx => ?_, h⟩
        rcases List.mem_cons.1 hx with e | hx
        · omega
        · have := h'.1 x hx; omega
      · exact h
    · refine List.pairwise_cons.2 ⟨fun x hx => ?_, ih h'.2⟩
      rcases mem_insL.1 hx with e | hx
      · omega
      · exact h'.1 x hx
theorem mem_addL {n x : Int} {l : List Int} : x ∈ addL l n ↔ (x = n ∧ inB n = true) ∨ x ∈ l := by
  unfold addL
  cases h : inB n
  · simp
  · simp [mem_insL]
theorem asc_addL {n : Int} {l : List Int} (h : Asc l) : Asc (addL l n) := by
  unfold addL
  split
  · exact asc_insL h
  · exact h
theorem asc_foldl {l a : List Int} (h : Asc a) : Asc (l.foldl addL a) := by
  induction l generalizing a with
  | nil => exact h
  | cons x l ih => exact ih (asc_addL h)
theorem mem_foldl {l a : List Int} {x : Int} : x ∈ l.foldl addL a ↔ x ∈ a ∨ (x ∈ l ∧ inB x = true) := by
  induction l generalizing a with
  | nil => simp
  | cons y l ih =>
    rw [List.foldl_cons, ih, mem_addL]
    constructor
    · rintro ((⟨rfl, h⟩ | h) | ⟨h1, h2⟩)
      · exact .inr ⟨List.mem_cons_self .., h⟩
      · exact .inl h
      · exact .inr ⟨List.mem_cons_of_mem _ h1, h2⟩
    · rintro (h | ⟨h1, h2⟩)
      · exact .inl (.inr h)
      · rcases List.mem_cons.1 h1 with rfl | h1
        · exact .inl (.inl ⟨rfl, h2⟩)
        · exact .inr ⟨h1, h2⟩
theorem asc_listP (p : Nat → Bool) : Asc (listP p) := by
  unfold Asc listP
  rw [List.pairwise_map]
  refine List.Pairwise.filter _ ?_
  exact (List.pairwise_lt_range (n := 512)).imp (fun h => by omega)
theorem mem_listP {p : Nat → Bool} {x : Int} : x ∈ listP p ↔ inB x = true ∧ p x.toNat = true := by
  unfold listP
  rw [List.mem_map, inB_iff]
  constructor
  · rintro ⟨k, hk, rfl⟩
    have := List.mem_filter.1 hk
    have h1 : k < 512 := by simpa using this.1
    exact ⟨by omega, by simpa using this.2⟩
  · rintro ⟨⟨h0, h1⟩, h2⟩
    exact ⟨x.toNat, List.mem_filter.2 ⟨by simp; omega, h2⟩, by omega⟩
/-- A set: ascending, each element in its bounds. -/
def IsSet (l : List Int) : Prop := Asc l ∧ ∀ x ∈ l, inB x = true
theorem IsSet.nil : IsSet [] := ⟨List.Pairwise.nil, fun _ h => by cases h⟩
theorem IsSet.listP (p : Nat → Bool) : IsSet (listP p) := ⟨asc_listP p, fun _ h => (mem_listP.1 h).1⟩
theorem IsSet.addL {l : List Int} (h : IsSet l) (n : Int) : IsSet (addL l n) := ⟨asc_addL h.1, fun x hx => by
  rcases mem_addL.1 hx with ⟨rfl, h⟩ | hx
  · exact h
  · exact h.2 x hx⟩
theorem IsSet.filter {l : List Int} (h : IsSet l) (p : Int → Bool) : IsSet (l.filter p) := ⟨List.Pairwise.filter _ h.1, fun x hx => h.2 x (List.mem_filter.1 hx).1⟩
theorem IsSet.union {a b : List Int} (h : IsSet a) : IsSet (unionL a b) := ⟨asc_foldl h.1, fun x hx => by
  rcases mem_foldl.1 hx with hx | hx
  · exact h.2 x hx
  · exact hx.2⟩
theorem IsSet.ofL (l : List Int) : IsSet (ofL l) := IsSet.union (a := []) IsSet.nil
theorem IsSet.length {l : List Int} (h : IsSet l) : l.length ≤ 512 := by
  have e : l = Go.Proofs.YtpjmpkgllnomaaaDoor.listP (memP l) := asc_eq h.1 (asc_listP _) fun x => by
    rw [mem_listP]
    constructor
    · intro hx
      have := inB_iff.1 (h.2 x hx)
      refine ⟨h.2 x hx, ?_⟩
      unfold memP
      have e : ((x.toNat : Nat) : Int) = x := by omega
      rw [e]; simp [hx]; omega
    · rintro ⟨h1, h2⟩
      have := inB_iff.1 h1
      unfold memP at h2
      have e : ((x.toNat : Nat) : Int) = x := by omega
      rw [e] at h2
      simp at h2
      exact h2.1
  rw [e]
  exact wordsL_length _ 8 (by omega)
theorem memP_at {l : List Int} {x : Int} (h : inB x = true) : memP l x.toNat = decide (x ∈ l) := by
  have := inB_iff.1 h
  unfold memP
  have e : ((x.toNat : Nat) : Int) = x := by omega
  have : x.toNat < 512 := by omega
  rw [e]; simp [this]
theorem listP_of (l : List Int) : listP (memP l) = ofL l := asc_eq (asc_listP _) (IsSet.ofL l).1 fun x => by
  rw [mem_listP]
  unfold ofL
  rw [mem_foldl]
  constructor
  · rintro ⟨h1, h2⟩; rw [memP_at h1] at h2; exact .inr ⟨by simpa using h2, h1⟩
  · rintro (h | ⟨h1, h2⟩)
    · cases h
    · exact ⟨h2, by rw [memP_at h2]; simpa using h1⟩
theorem ofL_set {l : List Int} (h : IsSet l) : ofL l = l := asc_eq (IsSet.ofL l).1 h.1 fun x => by
  unfold ofL
  rw [mem_foldl]
  constructor
  · rintro (h | h)
    · cases h
    · exact h.1
  · intro hx; exact .inr ⟨hx, h.2 x hx⟩
theorem hasI_set {l : List Int} (h : IsSet l) (n : Int) : hasI (memP l) n = hasL l n := by
  unfold hasI hasL
  cases hn : inB n
  · simp
    intro hm
    rw [h.2 n hm] at hn
    cases hn
  · rw [memP_at hn]; simp
theorem listP_add {l : List Int} (h : IsSet l) (n : Int) : listP (putI (memP l) n true) = addL l n := by
  rw [memP_snoc, listP_of]
  unfold ofL
  rw [List.foldl_append]
  show addL (ofL l) n = _
  rw [ofL_set h]
theorem putI_at {p : Nat → Bool} {n x : Int} {b : Bool} (h : inB x = true) : putI p n b x.toNat = if x = n then b else p x.toNat := by
  have hx := inB_iff.1 h
  unfold putI
  cases hn : inB n
  · have : x ≠ n := by rintro rfl; rw [h] at hn; cases hn
    simp [this]
  · have hn' := inB_iff.1 hn
    unfold putP
    by_cases e : x = n
    · subst e; simp
    · have : ¬ x.toNat = n.toNat := by omega
      simp [e, this]
theorem listP_remove {l : List Int} (h : IsSet l) (n : Int) : listP (putI (memP l) n false) = remL l n := asc_eq (asc_listP _) (h.filter _).1 fun x => by
  unfold remL
  rw [mem_listP, List.mem_filter]
  constructor
  · rintro ⟨h1, h2⟩
    rw [putI_at h1, memP_at h1] at h2
    by_cases e : x = n
    · simp [e] at h2
    · simp [e] at h2
      exact ⟨h2, by simpa using e⟩
  · rintro ⟨h1, h2⟩
    have e : ¬ x = n := by simpa using h2
    exact ⟨h.2 x h1, by rw [putI_at (h.2 x h1), memP_at (h.2 x h1)]; simp [e, h1]⟩
theorem listP_union {a b : List Int} (ha : IsSet a) : listP (fun k => memP a k || memP b k) = unionL a b := asc_eq (asc_listP _) (IsSet.union ha).1 fun x => by
  unfold unionL
  rw [mem_listP, mem_foldl]
  constructor
  · rintro ⟨h1, h2⟩
    rw [memP_at h1, memP_at h1] at h2
    simp at h2
    rcases h2 with h2 | h2
    · exact .inl h2
    · exact .inr ⟨h2, h1⟩
  · rintro (h | ⟨h, h1⟩)
    · exact ⟨ha.2 x h, by rw [memP_at (ha.2 x h)]; simp [h]⟩
    · exact ⟨h1, by rw [memP_at h1, memP_at h1]; simp [h]⟩
theorem listP_meet {a b : List Int} (ha : IsSet a) : listP (fun k => memP a k && memP b k) = meetL a b := asc_eq (asc_listP _) (ha.filter _).1 fun x => by
  unfold meetL hasL
  rw [mem_listP, List.mem_filter]
  constructor
  · rintro ⟨h1, h2⟩
    rw [memP_at h1, memP_at h1] at h2
    simpa using h2
  · rintro ⟨h1, h2⟩
    exact ⟨ha.2 x h1, by rw [memP_at (ha.2 x h1), memP_at (ha.2 x h1)]; simpa using ⟨h1, by simpa using h2⟩⟩
theorem listP_minus {a b : List Int} (ha : IsSet a) : listP (fun k => memP a k && !memP b k) = minusL a b := asc_eq (asc_listP _) (ha.filter _).1 fun x => by
  unfold minusL hasL
  rw [mem_listP, List.mem_filter]
  constructor
  · rintro ⟨h1, h2⟩
    rw [memP_at h1, memP_at h1] at h2
    simpa using h2
  · rintro ⟨h1, h2⟩
    exact ⟨ha.2 x h1, by rw [memP_at (ha.2 x h1), memP_at (ha.2 x h1)]; simpa using ⟨h1, by simpa using h2⟩⟩
theorem checkL_set {l : List Int} (h : IsSet l) : checkL l = true := checkL_ok fun k hk => by
  rcases Nat.eq_zero_or_pos k with rfl | hpos
  · rw [okAt_zero hk]; exact h.2 _ (List.getElem_mem hk)
  · obtain ⟨j, rfl⟩ : ∃ j, k = j + 1 := ⟨k - 1, by omega⟩
    rw [okAt_succ hk, h.2 _ (List.getElem_mem hk)]
    have := List.pairwise_iff_getElem.1 h.1 j (j + 1) (by omega) hk (by omega)
    simpa using this
theorem withinL_iff {a b : List Int} : withinL a b = a.all (fun x => hasL b x) := by
  unfold withinL minusL
  cases h : a.all (fun x => hasL b x)
  · rw [List.all_eq_false] at h
    obtain ⟨x, hx, hn⟩ := h
    rw [List.isEmpty_eq_false_iff]
    intro e
    have := List.filter_eq_nil_iff.1 e x hx
    simp at this hn
    rw [hn] at this; cases this
  · rw [List.all_eq_true] at h
    rw [List.isEmpty_iff, List.filter_eq_nil_iff]
    intro x hx
    simp [h x hx]
end Go.Proofs.YtpjmpkgllnomaaaDoor
