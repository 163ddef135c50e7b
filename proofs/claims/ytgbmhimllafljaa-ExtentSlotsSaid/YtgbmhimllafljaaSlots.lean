/- The slots that are drawn. -/
import Derived.Test.YtgbmhimllafljaaSlot
namespace Go.Proofs.Ytgbmhimllafljaa
open Go.RowKit
/-- the cells of a list of slots -/
def slotCells (l : List (Int × Int)) : List Value := l.flatMap fun s => [.int .i64 s.1, .int .i64 s.2]
theorem slotCells_append (l m : List (Int × Int)) : slotCells (l ++ m) = slotCells l ++ slotCells m := by simp [slotCells]
theorem slotCells_length (l : List (Int × Int)) : (slotCells l).length = l.length * 2 := by
  induction l with
  | nil => rfl
  | cons a l ih => simp only [slotCells, List.flatMap_cons, List.length_append] at ih ⊢; rw [ih]; simp; omega
theorem slot_info : (Try.prog.info? 65).map (fun i => (i.zero, i.size, i.bytes)) = some (some (.agg #[.int .i64 0, .int .i64 0]), 2, 16) := by kernel_rfl
theorem ownsRow_keep {w w' : World} {base : Nat} {e : TypeId} {size n : Nat} {v : Value} {xs : List Value} {K : Nat → Prop} (h : w.ownsRow base e size v n xs) (hk : Keeps K w w') (hK : ∀ b, base ≤ b → b < w.heap.size → K b) : w'.ownsRow base e size v n xs := by
  obtain ⟨h1, h2⟩ := h
  refine ⟨h1, ?_⟩
  rcases h2 with h2 | ⟨g, cap, cur, hv, hg, hh, r⟩
  · exact .inl h2
  · have hlt : g < w.heap.size := by
      rcases Nat.lt_or_ge g w.heap.size with hlt | hge
      · exact hlt
      · rw [Array.getElem?_eq_none hge] at hh; cases hh
    exact .inr ⟨g, cap, cur, hv, hg, by rw [hk.block g hlt (hK g hg hlt)]; exact hh, r⟩
def SlotsOk (l : List (Int × Int)) : Prop := ∀ s ∈ l, SizeOk s.1 ∧ AlignOk s.2
set_option maxHeartbeats 1000000 in
theorem Slots_any (B g : Nat) (most : Int) (w : World) (h : Codes w B g) (hm : 0 ≤ most ∧ most ≤ 1000) :
    Calls Try.prog 37 #[.pointer (some ⟨g, 0, none⟩), .int .i64 most] w fun e w' => (∃ v l, e = .returned v ∧ w'.ownsRow w.heap.size 65 2 v l.length (slotCells l) ∧ (l.length : Int) ≤ most ∧ SlotsOk l) ∧ Codes w' B g ∧ Keeps (fun b => b ≠ g) w w' := by
  have hg : g < w.heap.size := h.2.1
  have hBg : B ≤ g := h.1
  have H := hide h
  clear h
  obtain ⟨i0, hi, hz0, hz1, hz2⟩ := info_parts slot_info
  go_enter Try.func37, Try.ntmps37
  go_wp2_with (go_at_call 38; refine (Next_any B g _ _ H.out (by omega) (by omega)).mono ?_; rintro e w1 ⟨⟨x, rfl, hx0, hx1, _⟩, hcd, hk⟩)
  have hx2 := hx1 (by omega)
  have HCD := hide hcd
  have HK := hide hk
  clear hcd hk hx1
  go_loopw [5, 6] (fun v n wr => ∃ (l : List (Int × Int)) (k : Nat), n = .int .i64 k ∧ (l.length : Int) + k ≤ most ∧ Hid (wr.ownsRow w.heap.size 65 2 v l.length (slotCells l)) ∧ Hid (SlotsOk l) ∧ Hid (Codes wr B g) ∧ Hid (Keeps (fun b => b ≠ g) w wr)) (fun _ n _ => (intOf n).toNat)
  case atStart =>
    obtain ⟨k, rfl⟩ := Int.eq_ofNat_of_zero_le hx0
    exact ⟨[], k, rfl, by simp; omega, World.ownsRow_nil _ _ _ _, hide (fun s hs => by cases hs), HCD, HK⟩
  case round =>
    clear HCD HK hx0 hx2
    obtain ⟨l, k, rfl, hlk, HO, HS, HC, HK⟩ := hrel
    by_cases hlt : 0 < k
    · have hd : (0 : Int) < (k : Int) := by omega
      go_wp2_with fail
      refine (Slot_any B g _ HC.out).mono ?_
      rintro e w2 ⟨⟨y0, y1, rfl, hy0, hy1⟩, hcd2, hk2⟩
      have hown2 := ownsRow_keep HO.out hk2 (fun b hb => by omega)
      have HCD2 := hide hcd2
      have HK2 := hide hk2
      have HY := hide (And.intro hy0 hy1)
      clear hcd2 hk2 hy0 hy1
      go_wp2_with (at_builtin; refine wpList_append_own _ rfl _ _ 31 rfl w.heap.size 65 i0 _ 2 16 Try.underlying31 hi hz0 hz1 hz2 rfl (by decide) _ _ _ rfl (hown2.alloc _) ⟨w2.heap.size, 0, none⟩ 1 1 [.int .i64 y0, .int .i64 y1] rfl rfl ?c1 ?c2 ?c3 ?c4 ?c5 ?_)
      case c1 =>
        intro j u hj
        match j, hj with
        | 0, hj => simp at hj; subst hj; simp [Addr.add]
        | 1, hj => simp at hj; subst hj; simp [Addr.add]
      case c2 => intro u hu; simp at hu; rcases hu with rfl | rfl <;> rfl
      case c3 => unfold maxLen; omega
      case c4 => omega
      case c5 => have := HK.out.size; have := HK2.out.size; simp; omega
      intro v' w3 hown3 hgrow3 _
      have hk3 : Keeps (fun b => b < w.heap.size) w2 w3 := ((Keeps.refl _ _).alloc _).grown hgrow3 (fun k hk => .inl (by have := (hown2.lt k hk).1; omega))
      have HK3 := hide (((HK.out.trans HK2.out).alloc _).grown hgrow3 (fun k hk => .inr (hown2.lt k hk).1))
      have HC3 := hide (HCD2.out.keep hk3 (by omega) (fun b hb => by omega))
      have HO3 := hide hown3
      clear hk3 hgrow3 hown3 hown2
      go_wp2
      go_roundw
      case rel =>
        refine ⟨l ++ [(y0, y1)], k - 1, by have e : ((k - 1 : Nat) : Int) = (k : Int) - 1 := by { omega }; rw [e], by simp; omega, ?_, ?_, HC3, HK3⟩
        · have := HO3.out
          rw [slotCells_append, List.length_append]
          exact this
        · intro s hs
          rcases List.mem_append.1 hs with h | h
          · exact HS.out s h
          · simp at h; subst h; exact HY.out
      case measure => simp only [intOf]; omega
    · go_wp2
      go_ret
      exact ⟨⟨_, l, rfl, HO.out, by omega, HS.out⟩, HC.out, HK.out⟩
end Go.Proofs.Ytgbmhimllafljaa
