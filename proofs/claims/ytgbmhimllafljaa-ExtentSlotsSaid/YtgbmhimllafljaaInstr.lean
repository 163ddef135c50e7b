/- A slice literal of integers, and the instruction that the laws of chapter 15 draw. -/
import Derived.Test.YtgbmhimllafljaaCodes
import Derived.Test.YtgbmhimllafljaaRegion
namespace Go.Proofs.Ytgbmhimllafljaa
open Go.RowKit
/-- v is a slice of n integers that meet p, in a block of its own from lo on that is not g. -/
def IntTab (w : World) (g lo : Nat) (p : Int → Prop) (n : Nat) (v : Value) : Prop :=
  ∃ b, v = .slice (some ⟨b, 0, none⟩) n n ∧ lo ≤ b ∧ b < w.heap.size ∧ b ≠ g ∧ ∀ j, j < n → ∃ y, w.cell? ⟨b, j, none⟩ = some (.int .i64 y) ∧ p y
/-- v points to such an integer. -/
def IntPtr (w : World) (g lo : Nat) (p : Int → Prop) (v : Value) : Prop :=
  ∃ b j y, v = .pointer (some ⟨b, j, none⟩) ∧ lo ≤ b ∧ b < w.heap.size ∧ b ≠ g ∧ w.cell? ⟨b, j, none⟩ = some (.int .i64 y) ∧ p y
theorem IntTab.keep {w w' : World} {g lo n : Nat} {p : Int → Prop} {v : Value} {K : Nat → Prop} (h : IntTab w g lo p n v) (hk : Keeps K w w') (hK : ∀ b, lo ≤ b → b ≠ g → K b) : IntTab w' g lo p n v := by
  obtain ⟨b, h1, h2, h3, h4, h5⟩ := h
  refine ⟨b, h1, h2, Nat.lt_of_lt_of_le h3 hk.size, h4, fun j hj => ?_⟩
  obtain ⟨y, hy, hp⟩ := h5 j hj
  exact ⟨y, (hk.cell (p := ⟨b, j, none⟩) (hK b h2 h4) h3).trans hy, hp⟩
theorem IntPtr.keep {w w' : World} {g lo : Nat} {p : Int → Prop} {v : Value} {K : Nat → Prop} (h : IntPtr w g lo p v) (hk : Keeps K w w') (hK : ∀ b, lo ≤ b → b ≠ g → K b) : IntPtr w' g lo p v := by
  obtain ⟨b, j, y, h1, h2, h3, h4, h5, h6⟩ := h
  exact ⟨b, j, y, h1, h2, Nat.lt_of_lt_of_le h3 hk.size, h4, (hk.cell (p := ⟨b, j, none⟩) (hK b h2 h4) h3).trans h5, h6⟩
def InR (n : Int) (v : Value) : Prop := ∃ x, v = .int .i64 x ∧ 0 ≤ x ∧ x < n
theorem tabNew (w : World) (t : TypeId) (cs : Array Value) (g lo : Nat) (p : Int → Prop) (hg : g < w.heap.size) (hlo : lo ≤ w.heap.size) (h : ∀ j, j < cs.size → ∃ y, cs[j]? = some (.int .i64 y) ∧ p y) : IntTab (w.alloc (.cells cs t)) g lo p cs.size (.slice (some ⟨w.heap.size, 0, none⟩) cs.size cs.size) :=
  ⟨w.heap.size, rfl, hlo, by simp, by omega, fun j hj => by
    obtain ⟨y, hy, hp⟩ := h j hj
    exact ⟨y, by simp [hy], hp⟩⟩

theorem stay {d p q : Prop} (h : d → q) (hn : ¬ p) : d ∨ p → q := fun h' => h'.elim h (fun hp => absurd hp hn)

set_option maxHeartbeats 1000000 in
theorem instr_any (B g : Nat) (w : World) (h : Codes w B g) :
    Calls Try.prog 33 #[.pointer (some ⟨g, 0, none⟩)] w fun e w' => (∃ op a b : Int, e = .returned (.agg #[.int .i64 op, .int .i64 a, .int .i64 b, .int .i64 0, .int .u64 0]) ∧ (0 ≤ a ∧ a < 9) ∧ (0 ≤ b ∧ b < 9)) ∧ Codes w' B g ∧ Keeps (fun b => b ≠ g) w w' := by
  have hg : g < w.heap.size := h.2.1
  have hBg : B ≤ g := h.1
  have H := hide h
  clear h
  go_enter Try.func33, Try.ntmps33
  go_wp2_with fail
  refine wp_region_inv (fun D a wx => ∃ v3 v4 v5 v6 v7 v8 v9 v10 v11 v12 : Value, a = { tmps := #[.pointer (some ⟨g, 0, none⟩), undef, .pointer (some ⟨w.heap.size, 0, none⟩), v3, v4, v5, v6, v7, v8, v9, v10, v11, v12], defers := [] } ∧
    Hid (Codes wx B g) ∧ Hid (Keeps (fun b => b ≠ g) w wx) ∧ w.heap.size < wx.heap.size ∧ (∃ c0 c1 c2 c3 c4, Hid (wx.heap[w.heap.size]? = some (.cells #[c0, c1, c2, c3, c4] 37 (0, 0)) ∧ (D 10 → ∃ y a b : Int, c0 = .int .i64 y ∧ c1 = .int .i64 a ∧ c2 = .int .i64 b ∧ c3 = .int .i64 0 ∧ c4 = .int .u64 0 ∧ (0 ≤ a ∧ a < 9) ∧ (0 ≤ b ∧ b < 9)))) ∧
    Hid (D 0 → IntTab wx g (w.heap.size + 1) (fun _ => True) 8 v3) ∧ Hid (D 1 → v4 = .pointer (some ⟨g, 0, none⟩)) ∧ Hid (D 2 → InR 8 v5) ∧ Hid (D 3 → IntPtr wx g (w.heap.size + 1) (fun _ => True) v6) ∧ Hid (D 4 → ∃ y, v7 = .int .i64 y) ∧
    Hid (D 5 → v8 = .pointer (some ⟨g, 0, none⟩)) ∧ Hid (D 6 → InR 9 v9) ∧ Hid (D 7 → v10 = .pointer (some ⟨g, 0, none⟩)) ∧ Hid (D 8 → InR 9 v11) ∧
    Hid (D 9 → ∃ y a b : Int, v12 = .agg #[.int .i64 y, .int .i64 a, .int .i64 b, .int .i64 0, .int .u64 0] ∧ (0 ≤ a ∧ a < 9) ∧ (0 ≤ b ∧ b < 9))) (by kernel_rfl) (by kernel_rfl) ?eqv ?start ?step ?fin
  case eqv =>
    intro D D' a wx hD
    have : D = D' := funext fun j => propext (hD j)
    rw [this]
    exact id
  case start =>
    refine ⟨_, _, _, _, _, _, _, _, _, _, rfl, H.out.keep (K := fun _ => True) (((Keeps.refl _ _).alloc _).drew) trivial (fun _ _ => trivial), ((Keeps.refl _ _).alloc _).drew, by simp, ⟨_, _, _, _, _, ⟨heap_alloc_new w _, fun h => h.elim⟩⟩, ?_⟩
    exact ⟨fun h => h.elim, fun h => h.elim, fun h => h.elim, fun h => h.elim, fun h => h.elim, fun h => h.elim, fun h => h.elim, fun h => h.elim, fun h => h.elim, fun h => h.elim⟩
  case step =>
    refine ⟨?_, ?_, ?_, ?_, ?_, ?_, ?_, ?_, ?_, ?_, ?_, trivial⟩
    all_goals
      rintro D a wx K ⟨v3, v4, v5, v6, v7, v8, v9, v10, v11, v12, rfl, hC, hK, hsz, ⟨c0, c1, c2, c3, c4, hblk⟩, f0, f1, f2, f3, f4, f5, f6, f7, f8, f9⟩ hn hw hgo
    · go_simp
      have hk : Keeps (fun _ => True) wx (wx.alloc (.cells #[.int .i64 16, .int .i64 15, .int .i64 17, .int .i64 17, .int .i64 14, .int .i64 18, .int .i64 19, .int .i64 22] 3)) := (Keeps.refl _ _).alloc _
      have hgx := hC.out.2.1
      refine hgo _ _ ⟨_, _, _, _, _, _, _, _, _, _, rfl, hC.out.keep hk trivial (fun _ _ => trivial), hK.out.trans (hk.mono (fun _ _ => trivial)), by simp; omega, ⟨c0, c1, c2, c3, c4, (hk.block _ hsz trivial).trans hblk.out.1, stay hblk.out.2 (by decide)⟩,
        fun _ => tabNew wx 3 #[.int .i64 16, .int .i64 15, .int .i64 17, .int .i64 17, .int .i64 14, .int .i64 18, .int .i64 19, .int .i64 22] g (w.heap.size + 1) _ hgx hsz ?_, stay f1.out (by decide), stay f2.out (by decide), stay (fun h => (f3.out h).keep hk (fun _ _ _ => trivial)) (by decide), stay f4.out (by decide), stay f5.out (by decide), stay f6.out (by decide), stay f7.out (by decide), stay f8.out (by decide), stay f9.out (by decide)⟩
      intro j hj
      match j, hj with
      | 0, _ | 1, _ | 2, _ | 3, _ | 4, _ | 5, _ | 6, _ | 7, _ => exact ⟨_, rfl, trivial⟩
    · go_simp
      exact hgo _ _ ⟨_, _, _, _, _, _, _, _, _, _, rfl, hC, hK, hsz, ⟨c0, c1, c2, c3, c4, hblk.out.1, stay hblk.out.2 (by decide)⟩, stay f0.out (by decide), fun _ => rfl, stay f2.out (by decide), stay f3.out (by decide), stay f4.out (by decide), stay f5.out (by decide), stay f6.out (by decide), stay f7.out (by decide), stay f8.out (by decide), stay f9.out (by decide)⟩
    · obtain rfl := f1.out (hw 1 (by kernel_rfl))
      go_simp
      refine (Next_any B g _ _ hC.out (by omega) (by omega)).mono ?_
      rintro e w1 ⟨⟨x, rfl, hx0, hx1, _⟩, hcd, hk⟩
      exact hgo _ _ ⟨_, _, _, _, _, _, _, _, _, _, rfl, hcd, hK.out.trans hk, Nat.lt_of_lt_of_le hsz hk.size, ⟨c0, c1, c2, c3, c4, (hk.block _ hsz (by omega)).trans hblk.out.1, stay hblk.out.2 (by decide)⟩, stay (fun h => (f0.out h).keep hk (fun _ _ h => h)) (by decide), stay (fun _ => rfl) (by decide), fun _ => ⟨x, rfl, hx0, hx1 (by omega)⟩, stay (fun h => (f3.out h).keep hk (fun _ _ h => h)) (by decide), stay f4.out (by decide), stay f5.out (by decide), stay f6.out (by decide), stay f7.out (by decide), stay f8.out (by decide), stay f9.out (by decide)⟩
    · obtain ⟨b, rfl, hb1, hb2, hb3, hb4⟩ := f0.out (hw 0 (by kernel_rfl))
      obtain ⟨x, rfl, hx0, hx1⟩ := f2.out (hw 2 (by kernel_rfl))
      have hx2 : x.toNat < 8 := by omega
      obtain ⟨y, hy, _⟩ := hb4 x.toNat hx2
      have HB4 := hide hb4
      clear hb4
      go_simp
      exact hgo _ _ ⟨_, _, _, _, _, _, _, _, _, _, rfl, hC, hK, hsz, ⟨c0, c1, c2, c3, c4, hblk.out.1, stay hblk.out.2 (by decide)⟩, fun _ => ⟨b, rfl, hb1, hb2, hb3, HB4.out⟩, stay f1.out (by decide), fun _ => ⟨x, rfl, hx0, hx1⟩, fun _ => ⟨b, _, y, rfl, hb1, hb2, hb3, hy, trivial⟩, stay f4.out (by decide), stay f5.out (by decide), stay f6.out (by decide), stay f7.out (by decide), stay f8.out (by decide), stay f9.out (by decide)⟩
    · obtain ⟨b, j, y, rfl, hb1, hb2, hb3, hy, _⟩ := f3.out (hw 3 (by kernel_rfl))
      go_simp
      exact hgo _ _ ⟨_, _, _, _, _, _, _, _, _, _, rfl, hC, hK, hsz, ⟨c0, c1, c2, c3, c4, hblk.out.1, stay hblk.out.2 (by decide)⟩, stay f0.out (by decide), stay f1.out (by decide), stay f2.out (by decide), fun _ => ⟨b, j, y, rfl, hb1, hb2, hb3, hy, trivial⟩, fun _ => ⟨y, rfl⟩, stay f5.out (by decide), stay f6.out (by decide), stay f7.out (by decide), stay f8.out (by decide), stay f9.out (by decide)⟩
    · go_simp
      exact hgo _ _ ⟨_, _, _, _, _, _, _, _, _, _, rfl, hC, hK, hsz, ⟨c0, c1, c2, c3, c4, hblk.out.1, stay hblk.out.2 (by decide)⟩, stay f0.out (by decide), stay f1.out (by decide), stay f2.out (by decide), stay f3.out (by decide), stay f4.out (by decide), fun _ => rfl, stay f6.out (by decide), stay f7.out (by decide), stay f8.out (by decide), stay f9.out (by decide)⟩
    · obtain rfl := f5.out (hw 5 (by kernel_rfl))
      go_simp
      refine (Next_any B g _ _ hC.out (by omega) (by omega)).mono ?_
      rintro e w1 ⟨⟨x, rfl, hx0, hx1, _⟩, hcd, hk⟩
      exact hgo _ _ ⟨_, _, _, _, _, _, _, _, _, _, rfl, hcd, hK.out.trans hk, Nat.lt_of_lt_of_le hsz hk.size, ⟨c0, c1, c2, c3, c4, (hk.block _ hsz (by omega)).trans hblk.out.1, stay hblk.out.2 (by decide)⟩, stay (fun h => (f0.out h).keep hk (fun _ _ h => h)) (by decide), stay f1.out (by decide), stay f2.out (by decide), stay (fun h => (f3.out h).keep hk (fun _ _ h => h)) (by decide), stay f4.out (by decide), stay (fun _ => rfl) (by decide), fun _ => ⟨x, rfl, hx0, hx1 (by omega)⟩, stay f7.out (by decide), stay f8.out (by decide), stay f9.out (by decide)⟩
    · go_simp
      exact hgo _ _ ⟨_, _, _, _, _, _, _, _, _, _, rfl, hC, hK, hsz, ⟨c0, c1, c2, c3, c4, hblk.out.1, stay hblk.out.2 (by decide)⟩, stay f0.out (by decide), stay f1.out (by decide), stay f2.out (by decide), stay f3.out (by decide), stay f4.out (by decide), stay f5.out (by decide), stay f6.out (by decide), fun _ => rfl, stay f8.out (by decide), stay f9.out (by decide)⟩
    · obtain rfl := f7.out (hw 7 (by kernel_rfl))
      go_simp
      refine (Next_any B g _ _ hC.out (by omega) (by omega)).mono ?_
      rintro e w1 ⟨⟨x, rfl, hx0, hx1, _⟩, hcd, hk⟩
      exact hgo _ _ ⟨_, _, _, _, _, _, _, _, _, _, rfl, hcd, hK.out.trans hk, Nat.lt_of_lt_of_le hsz hk.size, ⟨c0, c1, c2, c3, c4, (hk.block _ hsz (by omega)).trans hblk.out.1, stay hblk.out.2 (by decide)⟩, stay (fun h => (f0.out h).keep hk (fun _ _ h => h)) (by decide), stay f1.out (by decide), stay f2.out (by decide), stay (fun h => (f3.out h).keep hk (fun _ _ h => h)) (by decide), stay f4.out (by decide), stay f5.out (by decide), stay f6.out (by decide), stay (fun _ => rfl) (by decide), fun _ => ⟨x, rfl, hx0, hx1 (by omega)⟩, stay f9.out (by decide)⟩
    · obtain ⟨y, rfl⟩ := f4.out (hw 4 (by kernel_rfl))
      obtain ⟨a, rfl, ha⟩ := f6.out (hw 6 (by kernel_rfl))
      obtain ⟨b, rfl, hb⟩ := f8.out (hw 8 (by kernel_rfl))
      have HA := hide ha
      have HB := hide hb
      clear ha hb
      go_simp
      exact hgo _ _ ⟨_, _, _, _, _, _, _, _, _, _, rfl, hC, hK, hsz, ⟨c0, c1, c2, c3, c4, hblk.out.1, stay hblk.out.2 (by decide)⟩, stay f0.out (by decide), stay f1.out (by decide), stay f2.out (by decide), stay f3.out (by decide), fun _ => ⟨y, rfl⟩, stay f5.out (by decide), fun _ => ⟨a, rfl, HA.out⟩, stay f7.out (by decide), fun _ => ⟨b, rfl, HB.out⟩, fun _ => ⟨y, a, b, rfl, HA.out, HB.out⟩⟩
    · obtain ⟨y, a, b, rfl, ha, hb⟩ := f9.out (hw 9 (by kernel_rfl))
      have hcells := hblk.out.1
      have k0 : wx.cell? ⟨w.heap.size, 0, none⟩ = some c0 := by simp [World.cell?, hcells]
      have k1 : wx.cell? ⟨w.heap.size, 1, none⟩ = some c1 := by simp [World.cell?, hcells]
      have k2 : wx.cell? ⟨w.heap.size, 2, none⟩ = some c2 := by simp [World.cell?, hcells]
      have k3 : wx.cell? ⟨w.heap.size, 3, none⟩ = some c3 := by simp [World.cell?, hcells]
      have k4 : wx.cell? ⟨w.heap.size, 4, none⟩ = some c4 := by simp [World.cell?, hcells]
      have hf : ∀ j, wx.frozen? ⟨w.heap.size, j, none⟩ = false := fun j => by simp [World.frozen?, hcells]
      have HA := hide ha
      have HB := hide hb
      clear ha hb hcells
      go_simp
      have hk : Keeps (fun b => b ≠ w.heap.size) wx (((((wx.setCell ⟨w.heap.size, 0, none⟩ (.int .i64 y)).setCell ⟨w.heap.size, 1, none⟩ (.int .i64 a)).setCell ⟨w.heap.size, 2, none⟩ (.int .i64 b)).setCell ⟨w.heap.size, 3, none⟩ (.int .i64 0)).setCell ⟨w.heap.size, 4, none⟩ (.int .u64 0)) :=
        (((((Keeps.refl _ _).setCell (.inl (by simp)) _).setCell (.inl (by simp)) _).setCell (.inl (by simp)) _).setCell (.inl (by simp)) _).setCell (.inl (by simp)) _
      refine hgo _ _ ⟨_, _, _, _, _, _, _, _, _, _, rfl, hC.out.keep hk (by omega) (fun b hb => by omega), ?_, Nat.lt_of_lt_of_le hsz hk.size, ⟨.int .i64 y, .int .i64 a, .int .i64 b, .int .i64 0, .int .u64 0, ?_, fun _ => ⟨y, a, b, rfl, rfl, rfl, rfl, rfl, HA.out, HB.out⟩⟩, stay (fun h => (f0.out h).keep hk (fun _ h _ => by omega)) (by decide), stay f1.out (by decide), stay f2.out (by decide), stay (fun h => (f3.out h).keep hk (fun _ h _ => by omega)) (by decide), stay f4.out (by decide), stay f5.out (by decide), stay f6.out (by decide), stay f7.out (by decide), stay f8.out (by decide), stay f9.out (by decide)⟩
      · exact ((((hK.out.setCell (.inr (Nat.le_refl _)) _).setCell (.inr (Nat.le_refl _)) _).setCell (.inr (Nat.le_refl _)) _).setCell (.inr (Nat.le_refl _)) _).setCell (.inr (Nat.le_refl _)) _
      · have hcells := hblk.out.1
        simp [World.setCell, Array.getElem?_modify, hcells]
  case fin =>
    rintro D a wx hD ⟨v3, v4, v5, v6, v7, v8, v9, v10, v11, v12, rfl, hC, hK, hsz, ⟨c0, c1, c2, c3, c4, hblk⟩, -⟩
    obtain ⟨hcells, hr⟩ := hblk.out
    obtain ⟨y, a, b, rfl, rfl, rfl, rfl, rfl, ha, hb⟩ := hr (hD 10 (by decide))
    have k0 : wx.cell? ⟨w.heap.size, 0, none⟩ = some (.int .i64 y) := by simp [World.cell?, hcells]
    have k1 : wx.cell? ⟨w.heap.size, 1, none⟩ = some (.int .i64 a) := by simp [World.cell?, hcells]
    have k2 : wx.cell? ⟨w.heap.size, 2, none⟩ = some (.int .i64 b) := by simp [World.cell?, hcells]
    have k3 : wx.cell? ⟨w.heap.size, 3, none⟩ = some (.int .i64 0) := by simp [World.cell?, hcells]
    have k4 : wx.cell? ⟨w.heap.size, 4, none⟩ = some (.int .u64 0) := by simp [World.cell?, hcells]
    clear hcells hr hblk hD
    go_wp2
    exact bodyPost_ret (v := .agg #[.int .i64 y, .int .i64 a, .int .i64 b, .int .i64 0, .int .u64 0]) (by simp [results, Try.results33, go_sem, k0, k1, k2, k3, k4]) rfl ⟨⟨y, a, b, rfl, ha, hb⟩, hC.out, hK.out⟩
end Go.Proofs.Ytgbmhimllafljaa
