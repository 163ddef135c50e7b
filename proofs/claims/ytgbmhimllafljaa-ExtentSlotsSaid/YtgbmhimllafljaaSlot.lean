/- The slot that is drawn (by program: gen_lit.py). -/
import Derived.Test.YtgbmhimllafljaaInstr
namespace Go.Proofs.Ytgbmhimllafljaa
open Go.RowKit
def SizeOk (n : Int) : Prop := n = 1 ∨ n = 2 ∨ n = 4 ∨ n = 8 ∨ n = 16
def AlignOk (n : Int) : Prop := n = 1 ∨ n = 2 ∨ n = 4 ∨ n = 8 ∨ n = 16 ∨ n = 32 ∨ n = 64
instance (n : Int) : Decidable (SizeOk n) := by unfold SizeOk; exact inferInstance
instance (n : Int) : Decidable (AlignOk n) := by unfold AlignOk; exact inferInstance

set_option maxHeartbeats 1000000 in
theorem Slot_any (B g : Nat) (w : World) (h : Codes w B g) :
    Calls Try.prog 54 #[.pointer (some ⟨g, 0, none⟩)] w fun e w' => (∃ y0 y1 : Int, e = .returned (.agg #[.int .i64 y0, .int .i64 y1]) ∧ SizeOk y0 ∧ AlignOk y1) ∧ Codes w' B g ∧ Keeps (fun b => b ≠ g) w w' := by
  have hg : g < w.heap.size := h.2.1
  have hBg : B ≤ g := h.1
  have H := hide h
  clear h
  go_enter Try.func54, Try.ntmps54
  go_wp2_with fail
  refine wp_region_inv (fun D a wx => ∃ v3 v4 v5 v6 v7 v8 v9 v10 v11 v12 v13 : Value, a = { tmps := #[.pointer (some ⟨g, 0, none⟩), undef, .pointer (some ⟨w.heap.size, 0, none⟩), v3, v4, v5, v6, v7, v8, v9, v10, v11, v12, v13], defers := [] } ∧ Hid (Codes wx B g) ∧ Hid (Keeps (fun b => b ≠ g) w wx) ∧ w.heap.size < wx.heap.size ∧ (∃ c0 c1, Hid (wx.heap[w.heap.size]? = some (.cells #[c0, c1] 65 (0, 0)) ∧ (D 11 → ∃ y0 y1 : Int, c0 = .int .i64 y0 ∧ c1 = .int .i64 y1 ∧ SizeOk y0 ∧ AlignOk y1))) ∧
    Hid (D 0 → IntTab wx g (w.heap.size + 1) SizeOk 7 v3) ∧ Hid (D 1 → v4 = .pointer (some ⟨g, 0, none⟩)) ∧ Hid (D 2 → InR 7 v5) ∧ Hid (D 3 → IntPtr wx g (w.heap.size + 1) SizeOk v6) ∧ Hid (D 4 → ∃ y : Int, v7 = .int .i64 y ∧ SizeOk y) ∧ Hid (D 5 → IntTab wx g (w.heap.size + 1) AlignOk 8 v8) ∧ Hid (D 6 → v9 = .pointer (some ⟨g, 0, none⟩)) ∧ Hid (D 7 → InR 8 v10) ∧ Hid (D 8 → IntPtr wx g (w.heap.size + 1) AlignOk v11) ∧ Hid (D 9 → ∃ y : Int, v12 = .int .i64 y ∧ AlignOk y) ∧ Hid (D 10 → ∃ y0 y1 : Int, v13 = .agg #[.int .i64 y0, .int .i64 y1] ∧ SizeOk y0 ∧ AlignOk y1)) (by kernel_rfl) (by kernel_rfl) ?eqv ?start ?step ?fin
  case eqv =>
    intro D D' a wx hD
    have : D = D' := funext fun j => propext (hD j)
    rw [this]
    exact id
  case start =>
    refine ⟨_, _, _, _, _, _, _, _, _, _, _, rfl, H.out.keep (K := fun _ => True) (((Keeps.refl _ _).alloc _).drew) trivial (fun _ _ => trivial), ((Keeps.refl _ _).alloc _).drew, by simp, ⟨_, _, ⟨heap_alloc_new w _, fun h => h.elim⟩⟩, ?_⟩
    exact ⟨fun h => h.elim, fun h => h.elim, fun h => h.elim, fun h => h.elim, fun h => h.elim, fun h => h.elim, fun h => h.elim, fun h => h.elim, fun h => h.elim, fun h => h.elim, fun h => h.elim⟩
  case step =>
    refine ⟨?_, ?_, ?_, ?_, ?_, ?_, ?_, ?_, ?_, ?_, ?_, ?_, trivial⟩
    all_goals
      rintro D a wx K ⟨v3, v4, v5, v6, v7, v8, v9, v10, v11, v12, v13, rfl, hC, hK, hsz, ⟨c0, c1, hblk⟩, f0, f1, f2, f3, f4, f5, f6, f7, f8, f9, f10⟩ hn hw hgo
    · go_simp
      have hk : Keeps (fun _ => True) wx (wx.alloc (.cells #[.int .i64 8, .int .i64 4, .int .i64 8, .int .i64 1, .int .i64 2, .int .i64 16, .int .i64 8] 3)) := (Keeps.refl _ _).alloc _
      have hgx := hC.out.2.1
      refine hgo _ _ ⟨_, _, _, _, _, _, _, _, _, _, _, rfl, hC.out.keep hk trivial (fun _ _ => trivial), hK.out.trans (hk.mono (fun _ _ => trivial)), by simp; omega, ⟨c0, c1, (hk.block _ hsz trivial).trans hblk.out.1, stay hblk.out.2 (by decide)⟩,
        fun _ => tabNew wx 3 #[.int .i64 8, .int .i64 4, .int .i64 8, .int .i64 1, .int .i64 2, .int .i64 16, .int .i64 8] g (w.heap.size + 1) _ hgx hsz ?_, stay f1.out (by decide), stay f2.out (by decide), stay (fun h => (f3.out h).keep hk (fun _ _ _ => trivial)) (by decide), stay f4.out (by decide), stay (fun h => (f5.out h).keep hk (fun _ _ _ => trivial)) (by decide), stay f6.out (by decide), stay f7.out (by decide), stay (fun h => (f8.out h).keep hk (fun _ _ _ => trivial)) (by decide), stay f9.out (by decide), stay f10.out (by decide)⟩
      intro j hj
      match j, hj with
      | 0, _ | 1, _ | 2, _ | 3, _ | 4, _ | 5, _ | 6, _ => exact ⟨_, rfl, by decide⟩
    · go_simp
      exact hgo _ _ ⟨_, _, _, _, _, _, _, _, _, _, _, rfl, hC, hK, hsz, ⟨c0, c1, hblk.out.1, stay hblk.out.2 (by decide)⟩, stay f0.out (by decide), fun _ => rfl, stay f2.out (by decide), stay f3.out (by decide), stay f4.out (by decide), stay f5.out (by decide), stay f6.out (by decide), stay f7.out (by decide), stay f8.out (by decide), stay f9.out (by decide), stay f10.out (by decide)⟩
    · obtain rfl := f1.out (hw 1 (by kernel_rfl))
      go_simp
      refine (Next_any B g _ _ hC.out (by omega) (by omega)).mono ?_
      rintro e w1 ⟨⟨x, rfl, hx0, hx1, _⟩, hcd, hk⟩
      exact hgo _ _ ⟨_, _, _, _, _, _, _, _, _, _, _, rfl, hcd, hK.out.trans hk, Nat.lt_of_lt_of_le hsz hk.size, ⟨c0, c1, (hk.block _ hsz (by omega)).trans hblk.out.1, stay hblk.out.2 (by decide)⟩, stay (fun h => (f0.out h).keep hk (fun _ _ h => h)) (by decide), stay (fun _ => rfl) (by decide), fun _ => ⟨x, rfl, hx0, hx1 (by omega)⟩, stay (fun h => (f3.out h).keep hk (fun _ _ h => h)) (by decide), stay f4.out (by decide), stay (fun h => (f5.out h).keep hk (fun _ _ h => h)) (by decide), stay f6.out (by decide), stay f7.out (by decide), stay (fun h => (f8.out h).keep hk (fun _ _ h => h)) (by decide), stay f9.out (by decide), stay f10.out (by decide)⟩
    · obtain ⟨b, rfl, hb1, hb2, hb3, hb4⟩ := f0.out (hw 0 (by kernel_rfl))
      obtain ⟨x, rfl, hx0, hx1⟩ := f2.out (hw 2 (by kernel_rfl))
      have hx2 : x.toNat < 7 := by omega
      obtain ⟨y, hy, hpy⟩ := hb4 x.toNat hx2
      have HB4 := hide hb4
      have HPY := hide hpy
      clear hb4 hpy
      go_simp
      exact hgo _ _ ⟨_, _, _, _, _, _, _, _, _, _, _, rfl, hC, hK, hsz, ⟨c0, c1, hblk.out.1, stay hblk.out.2 (by decide)⟩, fun _ => ⟨b, rfl, hb1, hb2, hb3, HB4.out⟩, stay f1.out (by decide), fun _ => ⟨x, rfl, hx0, hx1⟩, fun _ => ⟨b, _, y, rfl, hb1, hb2, hb3, hy, HPY.out⟩, stay f4.out (by decide), stay f5.out (by decide), stay f6.out (by decide), stay f7.out (by decide), stay f8.out (by decide), stay f9.out (by decide), stay f10.out (by decide)⟩
    · obtain ⟨b, j, y, rfl, hb1, hb2, hb3, hy, hpy⟩ := f3.out (hw 3 (by kernel_rfl))
      have HPY := hide hpy
      clear hpy
      go_simp
      exact hgo _ _ ⟨_, _, _, _, _, _, _, _, _, _, _, rfl, hC, hK, hsz, ⟨c0, c1, hblk.out.1, stay hblk.out.2 (by decide)⟩, stay f0.out (by decide), stay f1.out (by decide), stay f2.out (by decide), fun _ => ⟨b, j, y, rfl, hb1, hb2, hb3, hy, HPY.out⟩, fun _ => ⟨y, rfl, HPY.out⟩, stay f5.out (by decide), stay f6.out (by decide), stay f7.out (by decide), stay f8.out (by decide), stay f9.out (by decide), stay f10.out (by decide)⟩
    · go_simp
      have hk : Keeps (fun _ => True) wx (wx.alloc (.cells #[.int .i64 8, .int .i64 4, .int .i64 1, .int .i64 8, .int .i64 16, .int .i64 2, .int .i64 32, .int .i64 64] 3)) := (Keeps.refl _ _).alloc _
      have hgx := hC.out.2.1
      refine hgo _ _ ⟨_, _, _, _, _, _, _, _, _, _, _, rfl, hC.out.keep hk trivial (fun _ _ => trivial), hK.out.trans (hk.mono (fun _ _ => trivial)), by simp; omega, ⟨c0, c1, (hk.block _ hsz trivial).trans hblk.out.1, stay hblk.out.2 (by decide)⟩,
        stay (fun h => (f0.out h).keep hk (fun _ _ _ => trivial)) (by decide), stay f1.out (by decide), stay f2.out (by decide), stay (fun h => (f3.out h).keep hk (fun _ _ _ => trivial)) (by decide), stay f4.out (by decide), fun _ => tabNew wx 3 #[.int .i64 8, .int .i64 4, .int .i64 1, .int .i64 8, .int .i64 16, .int .i64 2, .int .i64 32, .int .i64 64] g (w.heap.size + 1) _ hgx hsz ?_, stay f6.out (by decide), stay f7.out (by decide), stay (fun h => (f8.out h).keep hk (fun _ _ _ => trivial)) (by decide), stay f9.out (by decide), stay f10.out (by decide)⟩
      intro j hj
      match j, hj with
      | 0, _ | 1, _ | 2, _ | 3, _ | 4, _ | 5, _ | 6, _ | 7, _ => exact ⟨_, rfl, by decide⟩
    · go_simp
      exact hgo _ _ ⟨_, _, _, _, _, _, _, _, _, _, _, rfl, hC, hK, hsz, ⟨c0, c1, hblk.out.1, stay hblk.out.2 (by decide)⟩, stay f0.out (by decide), stay f1.out (by decide), stay f2.out (by decide), stay f3.out (by decide), stay f4.out (by decide), stay f5.out (by decide), fun _ => rfl, stay f7.out (by decide), stay f8.out (by decide), stay f9.out (by decide), stay f10.out (by decide)⟩
    · obtain rfl := f6.out (hw 6 (by kernel_rfl))
      go_simp
      refine (Next_any B g _ _ hC.out (by omega) (by omega)).mono ?_
      rintro e w1 ⟨⟨x, rfl, hx0, hx1, _⟩, hcd, hk⟩
      exact hgo _ _ ⟨_, _, _, _, _, _, _, _, _, _, _, rfl, hcd, hK.out.trans hk, Nat.lt_of_lt_of_le hsz hk.size, ⟨c0, c1, (hk.block _ hsz (by omega)).trans hblk.out.1, stay hblk.out.2 (by decide)⟩, stay (fun h => (f0.out h).keep hk (fun _ _ h => h)) (by decide), stay f1.out (by decide), stay f2.out (by decide), stay (fun h => (f3.out h).keep hk (fun _ _ h => h)) (by decide), stay f4.out (by decide), stay (fun h => (f5.out h).keep hk (fun _ _ h => h)) (by decide), stay (fun _ => rfl) (by decide), fun _ => ⟨x, rfl, hx0, hx1 (by omega)⟩, stay (fun h => (f8.out h).keep hk (fun _ _ h => h)) (by decide), stay f9.out (by decide), stay f10.out (by decide)⟩
    · obtain ⟨b, rfl, hb1, hb2, hb3, hb4⟩ := f5.out (hw 5 (by kernel_rfl))
      obtain ⟨x, rfl, hx0, hx1⟩ := f7.out (hw 7 (by kernel_rfl))
      have hx2 : x.toNat < 8 := by omega
      obtain ⟨y, hy, hpy⟩ := hb4 x.toNat hx2
      have HB4 := hide hb4
      have HPY := hide hpy
      clear hb4 hpy
      go_simp
      exact hgo _ _ ⟨_, _, _, _, _, _, _, _, _, _, _, rfl, hC, hK, hsz, ⟨c0, c1, hblk.out.1, stay hblk.out.2 (by decide)⟩, stay f0.out (by decide), stay f1.out (by decide), stay f2.out (by decide), stay f3.out (by decide), stay f4.out (by decide), fun _ => ⟨b, rfl, hb1, hb2, hb3, HB4.out⟩, stay f6.out (by decide), fun _ => ⟨x, rfl, hx0, hx1⟩, fun _ => ⟨b, _, y, rfl, hb1, hb2, hb3, hy, HPY.out⟩, stay f9.out (by decide), stay f10.out (by decide)⟩
    · obtain ⟨b, j, y, rfl, hb1, hb2, hb3, hy, hpy⟩ := f8.out (hw 8 (by kernel_rfl))
      have HPY := hide hpy
      clear hpy
      go_simp
      exact hgo _ _ ⟨_, _, _, _, _, _, _, _, _, _, _, rfl, hC, hK, hsz, ⟨c0, c1, hblk.out.1, stay hblk.out.2 (by decide)⟩, stay f0.out (by decide), stay f1.out (by decide), stay f2.out (by decide), stay f3.out (by decide), stay f4.out (by decide), stay f5.out (by decide), stay f6.out (by decide), stay f7.out (by decide), fun _ => ⟨b, j, y, rfl, hb1, hb2, hb3, hy, HPY.out⟩, fun _ => ⟨y, rfl, HPY.out⟩, stay f10.out (by decide)⟩
    · obtain ⟨y0, rfl, ha0⟩ := f4.out (hw 4 (by kernel_rfl))
      have HA0 := hide ha0
      clear ha0
      obtain ⟨y1, rfl, ha1⟩ := f9.out (hw 9 (by kernel_rfl))
      have HA1 := hide ha1
      clear ha1
      go_simp
      exact hgo _ _ ⟨_, _, _, _, _, _, _, _, _, _, _, rfl, hC, hK, hsz, ⟨c0, c1, hblk.out.1, stay hblk.out.2 (by decide)⟩, stay f0.out (by decide), stay f1.out (by decide), stay f2.out (by decide), stay f3.out (by decide), fun _ => ⟨y0, rfl, HA0.out⟩, stay f5.out (by decide), stay f6.out (by decide), stay f7.out (by decide), stay f8.out (by decide), fun _ => ⟨y1, rfl, HA1.out⟩, fun _ => ⟨y0, y1, rfl, HA0.out, HA1.out⟩⟩
    · obtain ⟨y0, y1, rfl, ha0, ha1⟩ := f10.out (hw 10 (by kernel_rfl))
      have hcells := hblk.out.1
      have k0 : wx.cell? ⟨w.heap.size, 0, none⟩ = some c0 := by simp [World.cell?, hcells]
      have k1 : wx.cell? ⟨w.heap.size, 1, none⟩ = some c1 := by simp [World.cell?, hcells]
      have hf : ∀ j, wx.frozen? ⟨w.heap.size, j, none⟩ = false := fun j => by simp [World.frozen?, hcells]
      have HA0 := hide ha0
      have HA1 := hide ha1
      clear ha0 ha1 hcells
      go_simp
      have hk : Keeps (fun b => b ≠ w.heap.size) wx ((wx.setCell ⟨w.heap.size, 0, none⟩ (.int .i64 y0)).setCell ⟨w.heap.size, 1, none⟩ (.int .i64 y1)) :=
        ((Keeps.refl _ _).setCell (.inl (by simp)) _).setCell (.inl (by simp)) _
      refine hgo _ _ ⟨_, _, _, _, _, _, _, _, _, _, _, rfl, hC.out.keep hk (by omega) (fun b hb => by omega), ?_, Nat.lt_of_lt_of_le hsz hk.size, ⟨.int .i64 y0, .int .i64 y1, ?_, fun _ => ⟨y0, y1, rfl, rfl, HA0.out, HA1.out⟩⟩, stay (fun h => (f0.out h).keep hk (fun _ h _ => by omega)) (by decide), stay f1.out (by decide), stay f2.out (by decide), stay (fun h => (f3.out h).keep hk (fun _ h _ => by omega)) (by decide), stay f4.out (by decide), stay (fun h => (f5.out h).keep hk (fun _ h _ => by omega)) (by decide), stay f6.out (by decide), stay f7.out (by decide), stay (fun h => (f8.out h).keep hk (fun _ h _ => by omega)) (by decide), stay f9.out (by decide), stay f10.out (by decide)⟩
      · exact ((hK.out).setCell (.inr (Nat.le_refl _)) _).setCell (.inr (Nat.le_refl _)) _
      · have hcells := hblk.out.1
        simp [World.setCell, Array.getElem?_modify, hcells]
  case fin =>
    rintro D a wx hD ⟨v3, v4, v5, v6, v7, v8, v9, v10, v11, v12, v13, rfl, hC, hK, hsz, ⟨c0, c1, hblk⟩, -⟩
    obtain ⟨hcells, hr⟩ := hblk.out
    obtain ⟨y0, y1, rfl, rfl, hfin⟩ := hr (hD 11 (by decide))
    have HF := hide hfin
    have k0 : wx.cell? ⟨w.heap.size, 0, none⟩ = some (.int .i64 y0) := by simp [World.cell?, hcells]
    have k1 : wx.cell? ⟨w.heap.size, 1, none⟩ = some (.int .i64 y1) := by simp [World.cell?, hcells]
    clear hcells hr hblk hD hfin
    go_wp2
    exact bodyPost_ret (v := .agg #[.int .i64 y0, .int .i64 y1]) (by simp [results, Try.results54, go_sem, k0, k1]) rfl ⟨⟨y0, y1, rfl, HF.out⟩, hC.out, hK.out⟩

end Go.Proofs.Ytgbmhimllafljaa
