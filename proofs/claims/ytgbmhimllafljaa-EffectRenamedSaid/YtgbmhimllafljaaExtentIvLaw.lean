/- The walk of ExtentIntervals. -/
import Derived.Test.YtgbmhimllafljaaExtentIv
import Derived.Deep.RegionHeld3
import Derived.Deep.DeepCutAuto
namespace Go.Proofs.Ytgbmhimllafljaa
open Go.RowKit
/- what a region of calls that only make memory keeps -/
theorem heldS {W w w' : World} (h : Below W.heap.size W w ∧ ∀ b o, b < W.heap.size → w.cell? ⟨b, o, none⟩ = W.cell? ⟨b, o, none⟩) (hb : Below w.heap.size w w') :
    Below W.heap.size W w' ∧ ∀ b o, b < W.heap.size → w'.cell? ⟨b, o, none⟩ = W.cell? ⟨b, o, none⟩ :=
  have h' := Below.trans h.1 (hb.mono (Below.size h.1))
  ⟨h', fun _ _ hlt => Below.cell h' hlt⟩
set_option maxRecDepth 100000 in
set_option maxHeartbeats 1000000 in
theorem walk_ExtentIntervals (a b c d n : Int) (w : World) :
    Calls Try.prog 7 #[.agg #[.int .i64 a, .int .i64 b], .agg #[.int .i64 c, .int .i64 d], .int .i64 n] w fun e w' => e = .returned (.bool true) ∧ Below w.heap.size w w' := by
  go_enter Try.func7, Try.ntmps7
  go_upto_region 3 with (first | (go_at_call 13; refine (awake03 _).mono ?_; rintro e w' ⟨rfl, rfl⟩))
  go_cut [7] (fun s7 wx => ∃ g : Nat, s7 = .pointer (some ⟨g, 0, none⟩) ∧ w.heap.size + 1 < g ∧ g < wx.heap.size ∧ wx.cell? ⟨g, 0, none⟩ = some (.int .i64 (a % 20)) ∧ wx.cell? ⟨g, 1, none⟩ = some (.int .i64 (b % 9)) ∧
    wx.cell? ⟨w.heap.size, 0, none⟩ = some (.int .i64 a) ∧ wx.cell? ⟨w.heap.size, 1, none⟩ = some (.int .i64 b) ∧ wx.cell? ⟨w.heap.size + 1, 0, none⟩ = some (.int .i64 c) ∧ wx.cell? ⟨w.heap.size + 1, 1, none⟩ = some (.int .i64 d) ∧ Hid (Below w.heap.size w wx))
  case first =>
    go_region_held3 (fun w' => w'.cell? ⟨w.heap.size, 0, none⟩ = some (.int .i64 a) ∧ w'.cell? ⟨w.heap.size, 1, none⟩ = some (.int .i64 b)) (go_keep) (first | (go_at_call 14; refine (Mod_any _ _ _ (by omega) (by omega)).mono ?_; rintro e w' ⟨rfl, rfl⟩))
    all_goals
      go_wp2_with fail
      go_meet
      exact ⟨_, rfl, by omega, by simp, by go_simp, by go_simp, by go_simp, by go_simp, by go_simp, by go_simp, by repeat (first | exact Below.refl _ _ | apply Below.drew | refine Below.alloc ?_ (by simp; try omega) _)⟩
  case rest =>
    obtain ⟨g, rfl, hg1, hg2, hx1, hx2, ha1, ha2, hc1, hc2, hB⟩ := hcut
    go_upto_region 4 with fail
    go_cut [8] (fun s8 wx => ∃ g2 : Nat, s8 = .pointer (some ⟨g2, 0, none⟩) ∧ g2 < wx.heap.size ∧ g < wx.heap.size ∧ w.heap.size < wx.heap.size ∧ w.heap.size + 1 < wx.heap.size ∧ wx.cell? ⟨g2, 0, none⟩ = some (.int .i64 (c % 20)) ∧ wx.cell? ⟨g2, 1, none⟩ = some (.int .i64 (d % 9)) ∧
      wx.cell? ⟨g, 0, none⟩ = some (.int .i64 (a % 20)) ∧ wx.cell? ⟨g, 1, none⟩ = some (.int .i64 (b % 9)) ∧
      wx.cell? ⟨w.heap.size, 0, none⟩ = some (.int .i64 a) ∧ wx.cell? ⟨w.heap.size, 1, none⟩ = some (.int .i64 b) ∧ wx.cell? ⟨w.heap.size + 1, 0, none⟩ = some (.int .i64 c) ∧ wx.cell? ⟨w.heap.size + 1, 1, none⟩ = some (.int .i64 d) ∧ Hid (Below w.heap.size w wx))
    case first =>
      have hg3 : w.heap.size < wc.heap.size := by omega
      have hg4 : w.heap.size + 1 < wc.heap.size := by omega
      go_region_held3 (fun w' => w'.cell? ⟨w.heap.size + 1, 0, none⟩ = some (.int .i64 c) ∧ w'.cell? ⟨w.heap.size + 1, 1, none⟩ = some (.int .i64 d)) (first | go_keep) (first | (go_at_call 14; refine (Mod_any _ _ _ (by omega) (by omega)).mono ?_; rintro e w' ⟨rfl, rfl⟩))
      all_goals
        go_wp2_with fail
        go_meet
        exact ⟨_, rfl, by simp, by simp; omega, by simp; omega, by simp; omega, by go_simp, by go_simp, by go_simp, by go_simp, by go_simp, by go_simp, by go_simp, by go_simp, Below.drew (Below.alloc hB.out (by omega) _)⟩
    case rest =>
      clear hB hx1 hx2 ha1 ha2 hc1 hc2 hg2
      obtain ⟨g2, rfl, hg2, hg, hw0, hw1, hy1, hy2, hx1, hx2, ha1, ha2, hc1, hc2, hB⟩ := hcut
      go_wp2_with (first | (go_at_call 14; refine (Mod_any _ _ _ (by omega) (by omega)).mono ?_; rintro e w' ⟨rfl, rfl⟩) | fail)
      have hsym := overlapB_comm (c % 20) (d % 9) (a % 20) (b % 9)
      go_region_held3 (fun w' => Below wc.heap.size wc w' ∧ ∀ b o, b < wc.heap.size → w'.cell? ⟨b, o, none⟩ = wc.cell? ⟨b, o, none⟩) (first | (exact ⟨Below.drew (Below.refl _ _), fun _ _ _ => rfl⟩) | (refine heldS (by assumption) (by assumption)))
        (first | (go_at_call 29; refine (Overlap_any _ _ _ _ _).mono ?_; rintro e w' ⟨rfl, hbc⟩) | (go_at_call 30; refine (rOverlap_any _ _ _ _ _).mono ?_; rintro e w' ⟨rfl, hbc⟩) | (go_at_call 31; refine (Inside_any _ _ _ _).mono ?_; rintro e w' ⟨rfl, hbc⟩) | (go_at_call 32; refine (rInside_any _ _ _ _).mono ?_; rintro e w' ⟨rfl, hbc⟩))
      clear hsym
      go_wp2_with fail
      go_ret
      exact ⟨rfl, hB.out.trans (Below.mono (And.left (by assumption)) (Below.size hB.out))⟩

theorem law_ExtentIntervals (a b c d n : Int) (w : World) (_ : -9223372036854775808 ≤ a ∧ a ≤ 9223372036854775807) (_ : -9223372036854775808 ≤ b ∧ b ≤ 9223372036854775807) (_ : -9223372036854775808 ≤ c ∧ c ≤ 9223372036854775807)
    (_ : -9223372036854775808 ≤ d ∧ d ≤ 9223372036854775807) (_ : -9223372036854775808 ≤ n ∧ n ≤ 9223372036854775807) :
    Calls Try.prog 7 #[.agg #[.int .i64 a, .int .i64 b], .agg #[.int .i64 c, .int .i64 d], .int .i64 n] w fun e w' => e = .returned (.bool true) ∧ Below w.heap.size w w' := walk_ExtentIntervals a b c d n w

end Go.Proofs.Ytgbmhimllafljaa
