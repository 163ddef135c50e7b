/- Slices without spare room (x[:n:n]): an append copies. Calls that use up slices, and bring new ones. -/
import Derived.Test.YtpjmpkgllnomaaaDoorLg
import Derived.Test.YtpjmpkgllnomaaaDoorArr
set_option linter.unusedVariables false
set_option linter.unusedSimpArgs false
namespace Go.Proofs.YtpjmpkgllnomaaaDoor
open Go.RowKit Q
section
variable {P : Program} {w : World} {F : Nat → Prop} {o : Oper} {ev : Operand → SV} {t : TypeId} {y : Ty}
theorem OStep.sliceF {x z z' : Operand} {rows : List (List TV)} {e : TypeId} {ye : Ty} {k k' : IntKind} (ho : o.op = .slice t x none (some z) (some z')) (hx : ev x = tS rows) (hy : TyFits P t y) (hs : y.shp = .slice e) (hye : TyFits P e ye) (hsz : ∀ row ∈ rows, row.length = ye.size) (hz : ev z = iS k (rows.length : Int)) (hz' : ev z' = iS k' (rows.length : Int)) (hne : 0 < rows.length) :
    OStep P o ev ⟨[], [], [], .w (.c (.v (.full rows)))⟩ :=
  .pure fun C w η F sl hp N a hR hev hnd => by
    have h1 := hR.treev ((hev x (by simp [ho, Op.operands])).trans hx)
    have hc : ∃ ad c, a.eval x = .slice (some ad) rows.length c ∧ rows.length ≤ c := by
      generalize a.eval x = u at h1
      cases h1 with
      | empty a c hm => simp at hne
      | tree _ g o' sz' c cv hc hmx hsz' hF hcell htr => exact ⟨_, c, rfl, hc⟩
    obtain ⟨ad, c, h2, h3⟩ := hc
    have e1 := hR.int ((hev z (by simp [ho, Op.operands])).trans hz)
    have e2 := hR.int ((hev z' (by simp [ho, Op.operands])).trans hz')
    have hbd : (Instr.sliceBounds true rows.length c none (some (a.eval z)) (some (a.eval z'))).run P w = .ok (0, rows.length, rows.length) w := by
      simp [Instr.sliceBounds, e1, e2, run_sliceBound, (by omega : (rows.length : Int) ≤ (c : Int))]
    refine ⟨sliced (some ad) 0 rows.length rows.length ye.size, ?_, ?_⟩
    · unfold execOp; rw [ho]
      simp only [h2, Option.map_none, Option.map_some, Sem.run_bind, run_sliceT hy hs hye (some ad) _ c _ _ _ hbd, Result.andThen_ok]
      rfl
    · rw [h2] at h1
      have h4 := h1.sub (l := 0) (r := rows.length) (m := rows.length) hsz (Nat.zero_le _) (Nat.le_refl _) h3 (Nat.le_refl _)
      have e3 : (rows.drop 0).take (rows.length - 0) = rows := by simp
      have e4 : sliced (some ad) 0 rows.length rows.length ye.size = .slice (some (ad.add (0 * ye.size))) rows.length rows.length := by
        unfold sliced
        rw [if_neg (by omega)]
        rfl
      rw [e3, e4] at h4
      rw [e4]
      exact Tr.full rows _ h4
theorem append_runF {e T T' : TypeId} {ye yT : Ty} (hyT : TyFits P T yT) (hs : yT.shp = .slice e) (hye : TyFits P e ye) (hz : ye.zero.length = ye.size) (h0 : 0 < ye.size) (hby : 0 < ye.bytes)
    {ad0 : Addr} {n : Nat} {xs : List Value} (hxl : xs.length = n * ye.size) (hxs : ∀ (j : Nat) (v : Value), xs[j]? = some v → w.cell? (ad0.add j) = some v) {u : Value} {rows : List (List TV)} {news : List Value} (hu : Src w F u ye.size rows news) (hne : rows ≠ []) (hb : (n + rows.length) * ye.bytes ≤ 140737488355328) :
    ∃ v' w', (Builtin.append_ #[T, T] T' #[.slice (some ad0) n n, u]).run P w = .ok v' w' ∧ w'.ownsRow 0 e ye.size v' (n + rows.length) (xs ++ news) ∧ w.grownBy w' none ∧ (∀ g, v'.ownBlock = some g → w.heap.size ≤ g) := by
  obtain ⟨ad, c, rfl, hl, _, _, h1, h2⟩ := hu
  obtain ⟨i, hi, hi1, hi2, hi3⟩ := hye.info
  obtain ⟨z, hz1, hz2, _⟩ := hi3 (by intro h; rw [h] at hz; simp at hz; omega)
  have hzs : z.cells.size = ye.size := by
    have := congrArg List.length hz2
    simp at this
    rw [this, hz]
  have ht := hyT.slice hs
  have hpos : 0 < rows.length := List.length_pos_iff.2 hne
  rcases h2 with h2 | ⟨g, q, rfl, h3⟩
  · exact absurd h2 hne
  have hnews : ∀ (j : Nat) (v : Value), news[j]? = some v → w.cell? ((⟨g, q, none⟩ : Addr).add j) = some v := fun j v hv => by
    rw [addr_add]; exact h3 j v hv
  have h63 : n + rows.length ≤ maxLen := by
    have : (n + rows.length) * 1 ≤ (n + rows.length) * ye.bytes := Nat.mul_le_mul_left _ hby
    simp only [maxLen]
    omega
  have hlen : (xs ++ news).length = (n + rows.length) * ye.size := by rw [List.length_append, hxl, hl, Nat.add_mul]
  have hr := run_append_grow (P := P) w T T' e i z ht hi hz1 ad0 n n xs (by rw [hxl, hi1]) hxs ⟨g, q, none⟩ rows.length c news (by rw [hl, hi1]) hnews (by omega) (by simp only [maxLen] at h63; omega) (growslice_fits (by omega) (by rw [hi2]; exact hb))
  have hge := grownCap_ge w (n + rows.length) n e
  have hcm : grownCap w (n + rows.length) n e ≤ maxLen := grownCap_le_maxLen w (n + rows.length) n e h63
  refine ⟨_, _, hr, ⟨hlen, .inr ⟨w.heap.size, _, _, rfl, Nat.zero_le _, heap_alloc_new w.drew _, hge, hcm, ?_, ?_⟩⟩, ⟨rfl, rfl, rfl, by simp, fun k hk _ => heap_alloc_old w.drew _ hk⟩, fun g' hg' => ?_⟩
  · simp only [Array.size_append, List.size_toArray, size_zeroCells, hzs, hxl, hl, ← Nat.add_mul]
    congr 1
    omega
  · simp only [Array.toList_append, List.append_assoc]
    rw [← List.append_assoc, ← hlen]
    exact List.take_left
  · simp only [Value.ownBlock, Option.some.injEq] at hg'
    omega
theorem OStep.appF {x z : Operand} {T e : TypeId} {yT ye : Ty} {nb : Nat} {rows rows' : List (List TV)} {need : List (Nat × Blk)} (ho : o.op = .call { callee := .builtin .append, args := #[x, z], argTypes := #[T, T] }) (hx : ev x = .w (.c (.v (.full rows)))) (hyT : TyFits P T yT) (hs : yT.shp = .slice e) (hye : TyFits P e ye) (hz : ye.zero.length = ye.size) (h0 : 0 < ye.size) (hby : 0 < ye.bytes)
    (hszr : ∀ row ∈ rows, row.length = ye.size) (hner : rows ≠ []) (hsrc : SrcOf ev z ye.size rows' need) (hne : rows' ≠ []) (hb : (rows.length + rows'.length) * ye.bytes ≤ 140737488355328) : OStep P o ev ⟨need, [nb], [(nb, some (.sl e ye.size false (rows ++ rows')))], .w (.c (.mref nb))⟩ :=
  .heap fun C w η F sl hp N a hR hev hnd hnew => by
    obtain ⟨hn, hu, hus, hbs⟩ := hnew nb (by simp)
    have hxv : SRep w F η hp (.w (.c (.v (.full rows)))) (a.eval x) := by
      have := hR.eval x
      rwa [hev x (by simp [ho, Op.operands, Call.operands]), hx] at this
    have hfull : Tr w F (.full rows) (a.eval x) := hxv
    generalize hax : a.eval x = ux at hfull
    cases hfull with
    | full _ ad0 htree =>
      obtain ⟨xs, hxsrc⟩ := Src.ofTree htree h0 hszr
      obtain ⟨a1, c1, e1, hxl, _, htrx, _, hcx⟩ := hxsrc
      injection e1 with e1 _ e2
      subst e1
      have hxs : ∀ (j : Nat) (v : Value), xs[j]? = some v → w.cell? (ad0.add j) = some v := fun j v hv => by
        rcases hcx with h | ⟨g, q, h, h3⟩
        · exact absurd h hner
        · injection h with h
          subst h
          rw [addr_add]; exact h3 j v hv
      obtain ⟨news, hS⟩ := hsrc.src h0 hR (hev z (by simp [ho, Op.operands, Call.operands])) hnd
      obtain ⟨v', w', hr, hO, hg, hnw⟩ := append_runF (P := P) (w := w) (T' := o.type) hyT hs hye hz h0 hby hxl hxs hS hne hb
      obtain ⟨_, _, _, hl, hsz, htr, _⟩ := hS
      obtain ⟨h1, h2, h3⟩ := append_new hR (k := .sl e ye.size false (rows ++ rows')) (v' := v') hn hu hus hbs rfl hg (fun g hgo => hnw g ((own_block hO).1 hgo)) (fun hFc => brep_append (ηSet_same _ _ _) hFc hszr htrx hxl hsz htr hO)
      refine ⟨v', w', _, F, .inl (appExec ho hax rfl hr), h1, fun _ h => h, h2, h3, ?_⟩
      simp only [SRep, WRep, CRep, hpUpd, hpSet_same, ηSet_same]
end
section
variable {N k : Nat} {β : Type} {q : β → Po} {s : St} {m m1 m2 : M β} {all r : List Oper} {τ : List (Option Eff)} {d : Option Tmp} {ty : TypeId} {pos : String} {aft : Array Edge} {x y z : Operand} {T T' e : TypeId} {kd kd' : IntKind} {yT ye : Ty}
theorem X.sliceF {α : Type} {g : α → List TV} {l : List α} (h : (0 : Int) < (l.length : Int) → TS N k all q r (s.put d (.w (.c (.v (.full (l.map g)))))) (some ⟨[], [], [], .w (.c (.v (.full (l.map g))))⟩ :: τ) m) (hx : s.ev x = tS (l.map g) := by exact rfl) (hz : s.ev z = iS kd (l.length : Int) := by exact rfl) (hy : s.ev y = iS kd' (l.length : Int) := by exact rfl) (hT : tys.get T = some yT := by exact rfl) (hs : yT.shp = .slice e := by exact rfl) (he : tys.get e = some ye := by exact rfl) (hsz : ∀ v, (g v).length = ye.size := by exact fun _ => rfl) (hd : dstB N d = true := by exact rfl) : TS N k all q (⟨d, .slice T x none (some z) (some y), ty, pos, aft, none⟩ :: r) s τ (M.chk ((0 : Int) < (l.length : Int)) m) := by
  refine X.chk fun hc => X.up (h hc) fun _ hK => ?_
  have e1 : (l.map g).length = l.length := List.length_map ..
  exact G.op (OStep.sliceF (P := Tryd.prog) (k := kd) (k' := kd') rfl hx (fits hT) hs (fits he) (fun row hrow => by obtain ⟨v, _, rfl⟩ := List.mem_map.1 hrow; exact hsz v) (by rw [e1]; exact hz) (by rw [e1]; exact hy) (by omega)) trivial rfl hd hK
theorem X.appFM (nb : Nat) {α : Type} {g : α → List TV} {l l' : List α} {c : Nat} {ec : TypeId} {f : Bool} (h : l.length + l'.length < 1000000000000 ∧ (0 : Int) < (l.length : Int) ∧ (0 : Int) < (l'.length : Int) → TS N k all q r (s.eff d ⟨[(c, .sl ec ye.size f (l'.map g))], [nb], [(nb, some (.sl e ye.size false ((l ++ l').map g)))], .w (.c (.mref nb))⟩) (some ⟨[(c, .sl ec ye.size f (l'.map g))], [nb], [(nb, some (.sl e ye.size false ((l ++ l').map g)))], .w (.c (.mref nb))⟩ :: τ) m) (hx : s.ev x = .w (.c (.v (.full (l.map g)))) := by exact rfl) (hz' : s.ev z = .w (.c (.mref c)) := by exact rfl) (hT : tys.get T = some yT := by exact rfl) (hs : yT.shp = .slice e := by exact rfl) (he : tys.get e = some ye := by exact rfl) (hck : lookH s.heap c = some (.sl ec ye.size f (l'.map g)) := by exact rfl) (hg : ∀ v, (g v).length = ye.size := by exact fun _ => rfl) (hz : ye.zero.length = ye.size := by exact rfl) (h0 : Nat.blt 0 ye.size = true := by exact rfl) (hby : Nat.blt 0 ye.bytes = true := by exact rfl) (hby' : Nat.ble ye.bytes 128 = true := by exact rfl) (hw : s.freshB k nb = true := by exact rfl) (hd : dstB N d = true := by exact rfl) : TS N k all q (⟨d, .call { callee := .builtin .append, args := #[x, z], argTypes := #[T, T] }, ty, pos, aft, none⟩ :: r) s τ (M.chk (l.length + l'.length < 1000000000000 ∧ (0 : Int) < (l.length : Int) ∧ (0 : Int) < (l'.length : Int)) m) := by
  refine X.chk fun hl => X.up (h hl) fun _ hK => ?_
  have h1 : ye.bytes ≤ 128 := Nat.le_of_ble_eq_true hby'
  have e1 : (l.map g).length = l.length := List.length_map ..
  have e2 : (l'.map g).length = l'.length := List.length_map ..
  have h2 : (l.length + l'.length) * ye.bytes ≤ (l.length + l'.length) * 128 := Nat.mul_le_mul_left _ h1
  rw [List.map_append] at hK
  exact G.op (OStep.appF (P := Tryd.prog) rfl hx (fits hT) hs (fits he) hz (by simpa [Nat.blt_eq] using h0) (by simpa [Nat.blt_eq] using hby) (fun row hrow => by obtain ⟨v, _, rfl⟩ := List.mem_map.1 hrow; exact hg v) (fun q => by rw [List.map_eq_nil_iff] at q; subst q; simp at hl) (.own c ec f (l'.map g) hz') (fun q => by rw [List.map_eq_nil_iff] at q; subst q; simp at hl) (by rw [e1, e2]; omega)) ⟨hck, trivial⟩ (by simpa using hw) hd hK
/-! Calls that use up slices of one's own, or lend variables, and bring new slices. -/
theorem expSl_of {E : List Blk} (h : E.all (fun b => b.isSl && b.live) = true) : ∀ kb ∈ E, kb.exp := fun kb hkb => by
  have h3 := List.all_eq_true.1 h kb hkb
  cases kb with
  | sl e sz f rows => cases f with
    | false => exact exp_sl _ _ _
    | true => exact absurd h3 (by simp [Blk.live])
  | bx e cs => exact absurd h3 (by simp [Blk.isSl])
  | gh Φ => exact absurd h3 (by simp [Blk.isSl])
theorem X.callX (S : List (Nat × Blk)) (L Nw : List Nat) {γ : Type} {m1 : M γ} {kk : γ → M β} {E : γ → List Blk} {f : FuncId} {args : List Operand} {Ts : Array TypeId} {B : List (TypeId × List TV)} {B' : γ → List (TypeId × List TV)} {aa0 aa : List WV} {rv : γ → SV} (hf : ∀ a, m1 a → FCalls Tryd.prog f B aa (rv a) (E a) (B' a))
    (h : ∀ a, TS N k all q r (s.eff d ⟨lendNeed S L B, Nw, callUpd true S L (B' a) Nw (E a), (rv a).ren (callRen L Nw)⟩) (some ⟨lendNeed S L B, Nw, callUpd true S L (B' a) Nw (E a), (rv a).ren (callRen L Nw)⟩ :: τ) (kk a))
    (hE : ∀ a, (E a).all (fun b => b.isSl && b.live) = true := by exact fun _ => rfl) (hNl : ∀ a, Nw.length = (E a).length := by exact fun _ => rfl) (ha : argsW S L s.ev args = some aa0 := by exact rfl) (haa : aa0.map tzW = aa := by exact rfl) (hn : s.needOk (lendNeed S L B) := by exact ⟨rfl, trivial⟩) (hl : L.length = B.length := by exact rfl) (hS : S.all (fun p => p.2.isSl) = true := by exact rfl) (hnd : nodupB (L ++ Nw ++ S.map (·.1)) = true := by exact rfl) (hr : ∀ a, (rv a).below (B.length + (E a).length) = true := by exact fun _ => rfl)
    (hw : Nw.all (fun b => s.freshB k b) = true := by exact rfl) (hd : dstB N d = true := by exact rfl) : TS N k all q (⟨d, .call { callee := .value (.func f), args := args.toArray, argTypes := Ts }, ty, pos, aft, none⟩ :: r) s τ (M.call m1 kk) := by
  refine ⟨fun v hv => ?_⟩
  obtain ⟨a, h1, h2⟩ := M.call_iff.1 hv
  subst haa
  exact G.call true S L Nw (FCalls.tz (hf a h1)) ha hl hS (nodupB_ok hnd) (hNl a) (expSl_of (hE a)) (hr a) (by simp) hn (by simpa using hw) hd ((h a).out v h2)
/-- The same, where a nil slice is handed over as it is. -/
theorem X.callX0 (S : List (Nat × Blk)) (L Nw : List Nat) {γ : Type} {m1 : M γ} {kk : γ → M β} {E : γ → List Blk} {f : FuncId} {args : List Operand} {Ts : Array TypeId} {B : List (TypeId × List TV)} {B' : γ → List (TypeId × List TV)} {aa0 aa : List WV} {rv : γ → SV} (hf : ∀ a, m1 a → FCalls Tryd.prog f B aa (rv a) (E a) (B' a))
    (h : ∀ a, TS N k all q r (s.eff d ⟨lendNeed S L B, Nw, callUpd true S L (B' a) Nw (E a), (rv a).ren (callRen L Nw)⟩) (some ⟨lendNeed S L B, Nw, callUpd true S L (B' a) Nw (E a), (rv a).ren (callRen L Nw)⟩ :: τ) (kk a))
    (hE : ∀ a, (E a).all (fun b => b.isSl && b.live) = true := by exact fun _ => rfl) (hNl : ∀ a, Nw.length = (E a).length := by exact fun _ => rfl) (ha : argsW S L s.ev args = some aa0 := by exact rfl) (haa : aa0 = aa := by exact rfl) (hn : s.needOk (lendNeed S L B) := by exact trivial) (hl : L.length = B.length := by exact rfl) (hS : S.all (fun p => p.2.isSl) = true := by exact rfl) (hnd : nodupB (L ++ Nw ++ S.map (·.1)) = true := by exact rfl) (hr : ∀ a, (rv a).below (B.length + (E a).length) = true := by exact fun _ => rfl)
    (hw : Nw.all (fun b => s.freshB k b) = true := by exact rfl) (hd : dstB N d = true := by exact rfl) : TS N k all q (⟨d, .call { callee := .value (.func f), args := args.toArray, argTypes := Ts }, ty, pos, aft, none⟩ :: r) s τ (M.call m1 kk) := by
  refine ⟨fun v hv => ?_⟩
  obtain ⟨a, h1, h2⟩ := M.call_iff.1 hv
  subst haa
  exact G.call true S L Nw (hf a h1) ha hl hS (nodupB_ok hnd) (hNl a) (expSl_of (hE a)) (hr a) (by simp) hn (by simpa using hw) hd ((h a).out v h2)
theorem X.callXI (S : List (Nat × Blk)) (L Nw : List Nat) {γ : Type} {m1 : M γ} {kk : γ → M β} {E : γ → List Blk} {f : FuncId} {args : List Operand} {Ts : Array TypeId} {B : List (TypeId × List TV)} {B' : γ → List (TypeId × List TV)} {caps : List Cap} {aa0 ca aa : List WV} {rv : γ → SV} (hf : ∀ a, m1 a → FCalls Tryd.prog f B aa (rv a) (E a) (B' a))
    (h : ∀ a, TS N k all q r (s.eff d ⟨lendNeed S L B, Nw, callUpd true S L (B' a) Nw (E a), (rv a).ren (callRen L Nw)⟩) (some ⟨lendNeed S L B, Nw, callUpd true S L (B' a) Nw (E a), (rv a).ren (callRen L Nw)⟩ :: τ) (kk a))
    (hE : ∀ a, (E a).all (fun b => b.isSl && b.live) = true := by exact fun _ => rfl) (hNl : ∀ a, Nw.length = (E a).length := by exact fun _ => rfl) (hz : s.ev z = .w (.c (.clo f caps)) := by exact rfl) (ha : argsW S L s.ev args = some aa0 := by exact rfl) (hca : capsW L caps = some ca := by exact rfl) (haa : (aa0 ++ ca).map tzW = aa := by exact rfl) (hn : s.needOk (lendNeed S L B) := by exact ⟨rfl, trivial⟩) (hl : L.length = B.length := by exact rfl) (hS : S.all (fun p => p.2.isSl) = true := by exact rfl) (hnd : nodupB (L ++ Nw ++ S.map (·.1)) = true := by exact rfl) (hr : ∀ a, (rv a).below (B.length + (E a).length) = true := by exact fun _ => rfl)
    (hw : Nw.all (fun b => s.freshB k b) = true := by exact rfl) (hd : dstB N d = true := by exact rfl) : TS N k all q (⟨d, .call { callee := .value z, args := args.toArray, argTypes := Ts }, ty, pos, aft, none⟩ :: r) s τ (M.call m1 kk) := by
  refine ⟨fun v hv => ?_⟩
  obtain ⟨a, h1, h2⟩ := M.call_iff.1 hv
  subst haa
  exact G.callI true S L Nw hz (FCalls.tz (hf a h1)) ha hca hl hS (nodupB_ok hnd) (hNl a) (expSl_of (hE a)) (hr a) (by simp) hn (by simpa using hw) hd ((h a).out v h2)
end
end Go.Proofs.YtpjmpkgllnomaaaDoor
