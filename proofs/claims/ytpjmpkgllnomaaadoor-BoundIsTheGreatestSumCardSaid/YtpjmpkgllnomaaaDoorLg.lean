/- More rules for lifted functions: zero slices kept as nil, operations on bits, a slice compared to nil. -/
import Derived.Test.YtpjmpkgllnomaaaDoorIdx
import Derived.Test.YtpjmpkgllnomaaaDoorMc
import Derived.Test.YtpjmpkgllnomaaaDoorPureB
import Derived.Laws.Entries
import Derived.Laws.Cover3
set_option maxRecDepth 20000
namespace Go.Proofs.YtpjmpkgllnomaaaDoor
open Go.RowKit Q
section
variable {P : Program} {o : Oper} {ev : Operand → SV}
theorem OStep.bitsG {op : BinOp} {T T' : TypeId} {x y : Operand} {k : IntKind} {m n : Int} (hop : op = .and ∨ op = .or ∨ op = .xor ∨ op = .andNot) (ho : o.op = .binOp op T x y T') (hx : ev x = iS k m) (hy : ev y = iS k n) : OStep P o ev ⟨[], [], [], iS k (Go.bits op k m n)⟩ :=
  .int2 ho hx hy (v := .int k (Go.bits op k m n)) (fun w => by rcases hop with rfl | rfl | rfl | rfl <;> simp [go_sem]) (fun _ _ => .int _ _)
theorem OStep.addW {T T' : TypeId} {x y : Operand} {m n : Int} (ho : o.op = .binOp .add T x y T') (hx : ev x = iS .i64 m) (hy : ev y = iS .i64 n) : OStep P o ev ⟨[], [], [], iS .i64 (IntKind.i64.wrap (m + n))⟩ :=
  .int2 ho hx hy (v := .int .i64 (IntKind.i64.wrap (m + n))) (fun w => by simp [binOp, Op.intArith]) (fun _ _ => .int _ _)
theorem OStep.max3 {x y z : Operand} {Ts : Array TypeId} {l m n : Int} (ho : o.op = .call { callee := .builtin .max, args := #[x, y, z], argTypes := Ts }) (hx : ev x = iS .i64 l) (hy : ev y = iS .i64 m) (hz : ev z = iS .i64 n) : OStep P o ev ⟨[], [], [], iS .i64 (max (max l m) n)⟩ :=
  .pure fun C w η F sl hp N a hR hev _ => by
    have h1 := hR.int ((hev x (by simp [ho, Op.operands, Call.operands])).trans hx)
    have h2 := hR.int ((hev y (by simp [ho, Op.operands, Call.operands])).trans hy)
    have h3 := hR.int ((hev z (by simp [ho, Op.operands, Call.operands])).trans hz)
    refine ⟨.int .i64 (max (max l m) n), ?_, .int _ _⟩
    unfold execOp; rw [ho]
    have e : (if m > l then m else l) = max l m := by split <;> omega
    have e2 : (if n > max l m then n else max l m) = max (max l m) n := by split <;> omega
    simp [resolve, invoke, builtin, Builtin.max_, Builtin.max2, h1, h2, h3, e, e2]
end
section
variable {N k : Nat} {β : Type} {q : β → Po} {s : St} {m m1 m2 : M β} {all r : List Oper} {τ : List (Option Eff)} {d : Option Tmp} {ty : TypeId} {pos : String} {aft : Array Edge} {x y z : Operand} {T T' e : TypeId} {kd : IntKind} {yT ye : Ty}
theorem X.bits {op : BinOp} {i j : Int} (h : TS N k all q r (s.put d (iS kd (Go.bits op kd i j))) (some ⟨[], [], [], iS kd (Go.bits op kd i j)⟩ :: τ) m) (hop : op = .and ∨ op = .or ∨ op = .xor ∨ op = .andNot := by decide) (hx : s.ev x = iS kd i := by exact rfl) (hy : s.ev y = iS kd j := by exact rfl) (hd : dstB N d = true := by exact rfl) : TS N k all q (⟨d, .binOp op T x y T', ty, pos, aft, none⟩ :: r) s τ m := by
  refine X.op (OStep.bitsG (P := Tryd.prog) (o := ⟨d, .binOp op T x y T', ty, pos, aft, none⟩) hop rfl hx hy) trivial rfl hd ?_
  exact h
theorem X.max3 {a b c : Int} {Ts : Array TypeId} (h : TS N k all q r (s.put d (iS .i64 (Max.max (Max.max a b) c))) (some ⟨[], [], [], iS .i64 (Max.max (Max.max a b) c)⟩ :: τ) m) (hx : s.ev x = iS .i64 a := by exact rfl) (hy : s.ev y = iS .i64 b := by exact rfl) (hz : s.ev z = iS .i64 c := by exact rfl) (hd : dstB N d = true := by exact rfl) : TS N k all q (⟨d, .call { callee := .builtin .max, args := #[x, y, z], argTypes := Ts }, ty, pos, aft, none⟩ :: r) s τ m := by
  refine X.op (OStep.max3 (P := Tryd.prog) (o := ⟨d, .call { callee := .builtin .max, args := #[x, y, z], argTypes := Ts }, ty, pos, aft, none⟩) rfl hx hy hz) trivial rfl hd ?_
  exact h
theorem X.remS {i j : Int} (h : j ≠ 0 → TS N k all q r (s.put d (iS .i64 (i.tmod j))) (some ⟨[], [], [], iS .i64 (i.tmod j)⟩ :: τ) m) (hx : s.ev x = iS .i64 i := by exact rfl) (hy : s.ev y = iS .i64 j := by exact rfl) (hd : dstB N d = true := by exact rfl) : TS N k all q (⟨d, .binOp .rem T x y T', ty, pos, aft, none⟩ :: r) s τ (M.chk (j ≠ 0) m) := by
  refine X.chk fun hj => X.op (OStep.rem (P := Tryd.prog) (o := ⟨d, .binOp .rem T x y T', ty, pos, aft, none⟩) rfl hx hy hj) trivial rfl hd ?_
  exact h hj
theorem X.addW {i j : Int} (h : TS N k all q r (s.put d (iS .i64 (IntKind.i64.wrap (i + j)))) (some ⟨[], [], [], iS .i64 (IntKind.i64.wrap (i + j))⟩ :: τ) m) (hx : s.ev x = iS .i64 i := by exact rfl) (hy : s.ev y = iS .i64 j := by exact rfl) (hd : dstB N d = true := by exact rfl) : TS N k all q (⟨d, .binOp .add T x y T', ty, pos, aft, none⟩ :: r) s τ m := by
  refine X.op (OStep.addW (P := Tryd.prog) (o := ⟨d, .binOp .add T x y T', ty, pos, aft, none⟩) rfl hx hy) trivial rfl hd ?_
  exact h
/-! zero slices as nil -/
theorem X.stR {b i off : Nat} {eb : TypeId} {cells : List AV} {v : WV} (h : TS N k all q r (s.eff d ⟨[(b, .bx eb cells)], [], [(b, some (.bx eb (putAt cells off v.cells)))], SV.any⟩) (some ⟨[(b, .bx eb cells)], [], [(b, some (.bx eb (putAt cells off v.cells)))], SV.any⟩ :: τ) m) (hx : s.ev x = .w (.c (.ptr b i off)) := by exact rfl) (hb : lookH s.heap b = some (.bx eb cells) := by exact rfl) (hz : s.ev z = .w v := by exact rfl) (hT : tys.get T = some yT := by exact rfl) (hok : v.ok = true := by exact rfl) (hl : v.cells.length = yT.size := by exact rfl) (hle : Nat.ble (off + yT.size) cells.length = true := by exact rfl) (hd : dstB N d = true := by exact rfl) : TS N k all q (⟨d, .store T x z, ty, pos, aft, none⟩ :: r) s τ m := by
  refine X.op (OStep.storeBx (P := Tryd.prog) (o := ⟨d, .store T x z, ty, pos, aft, none⟩) rfl hx hz (fits hT) hok hl (Nat.le_of_ble_eq_true hle)) ⟨hb, trivial⟩ rfl hd ?_
  exact h
theorem X.allocR (nb : Nat) (h : TS N k all q r (s.eff d ⟨[], [nb], [(nb, some (.bx T (yT.zero.map .v)))], .w (.c (.ptr nb 0 0))⟩) (some ⟨[], [nb], [(nb, some (.bx T (yT.zero.map .v)))], .w (.c (.ptr nb 0 0))⟩ :: τ) m) (hT : tys.get T = some yT := by exact rfl) (hz : yT.zero.isEmpty = false := by exact rfl) (hw : s.freshB k nb = true := by exact rfl) (hd : dstB N d = true := by exact rfl) : TS N k all q (⟨d, .alloc T, ty, pos, aft, none⟩ :: r) s τ m := by
  refine X.op (OStep.alloc (P := Tryd.prog) (b := nb) (o := ⟨d, .alloc T, ty, pos, aft, none⟩) rfl (fits hT) (by intro e; rw [e] at hz; cases hz)) trivial (by simpa using hw) hd ?_
  exact h
theorem X.boxR (nb : Nat) {v : WV} (h : TS N k all q r (s.eff d ⟨[], [nb], [(nb, some (.bx T v.cells))], .w (.c (.ptr nb 0 0))⟩) (some ⟨[], [nb], [(nb, some (.bx T v.cells))], .w (.c (.ptr nb 0 0))⟩ :: τ) m) (hx : s.ev x = .w v := by exact rfl) (hok : v.ok = true := by exact rfl) (hm : v.cells.any (AV.ment nb) = false := by exact rfl) (hw : s.freshB k nb = true := by exact rfl) (hd : dstB N d = true := by exact rfl) : TS N k all q (⟨d, .box T x, ty, pos, aft, none⟩ :: r) s τ m := by
  refine X.op (OStep.box (P := Tryd.prog) (o := ⟨d, .box T x, ty, pos, aft, none⟩) rfl hx hok hm) trivial (by simpa using hw) hd ?_
  exact h
theorem X.buildR {parts : List (Nat × Operand)} {lp : List (Nat × WV)} {l : List (Nat × Nat × TypeId)} {cells : List AV} (h : TS N k all q r (s.put d (.w (.agg cells))) (some ⟨[], [], [], .w (.agg cells)⟩ :: τ) m) (hT : tys.get T = some yT := by exact rfl) (hs : yT.shp = .struct l := by exact rfl) (hz : yT.zero.isEmpty = false := by exact rfl) (hnz : l.all (fun x => x.2.1 != 0) = true := by exact rfl) (hpa : partsA s.ev parts = some lp := by exact rfl) (hr : fillA (placeS l) (yT.zero.map .v) lp = some cells := by exact rfl) (hd : dstB N d = true := by exact rfl) : TS N k all q (⟨d, .build T parts.toArray, ty, pos, aft, none⟩ :: r) s τ m := by
  refine X.op (OStep.build (P := Tryd.prog) (o := ⟨d, .build T parts.toArray, ty, pos, aft, none⟩) rfl (fits hT) hs (by intro e; rw [e] at hz; cases hz) hnz hpa hr) trivial rfl hd ?_
  exact h
end
/-! a slice of one's own as a result -/
section
variable {N k : Nat} {β : Type} {q : β → Po} {s : St} {m : M β} {all r : List Oper} {τ : List (Option Eff)} {d : Option Tmp} {ty : TypeId} {pos : String} {aft : Array Edge}
theorem exp_sl (e : TypeId) (sz : Nat) (rows : List (List TV)) : (Blk.sl e sz false rows).exp := rfl
theorem X.callO (nb : Nat) (S : List (Nat × Blk)) {γ : Type} {m1 : M γ} {kk : γ → M β} {es : TypeId} {sz : Nat} {rows : γ → List (List TV)} {f : FuncId} {args : List Operand} {Ts : Array TypeId} {aa0 aa : List WV} {rv : γ → SV} (hf : ∀ a, m1 a → FCalls Tryd.prog f [] aa (rv a) [.sl es sz false (rows a)] []) (h : ∀ a, TS N k all q r (s.eff d ⟨lendNeed S [] [], [nb], callUpd true S [] [] [nb] [.sl es sz false (rows a)], (rv a).ren (callRen [] [nb])⟩) (some ⟨lendNeed S [] [], [nb], callUpd true S [] [] [nb] [.sl es sz false (rows a)], (rv a).ren (callRen [] [nb])⟩ :: τ) (kk a)) (ha : argsW S [] s.ev args = some aa0 := by exact rfl) (haa : aa0.map tzW = aa := by exact rfl) (hn : s.needOk (lendNeed S [] []) := by exact trivial) (hS : S.all (fun p => p.2.isSl) = true := by exact rfl) (hnd : nodupB ([] ++ [nb] ++ S.map (·.1)) = true := by exact rfl) (hr : ∀ a, (rv a).below (0 + 1) = true := by exact fun _ => rfl) (hw : s.freshB k nb = true := by exact rfl) (hd : dstB N d = true := by exact rfl) : TS N k all q (⟨d, .call { callee := .value (.func f), args := args.toArray, argTypes := Ts }, ty, pos, aft, none⟩ :: r) s τ (M.call m1 kk) := by
  refine ⟨fun v hv => ?_⟩
  obtain ⟨a, h1, h2⟩ := M.call_iff.1 hv
  subst haa
  exact G.call true S [] [nb] (FCalls.tz (hf a h1)) ha rfl hS (nodupB_ok hnd) rfl (by intro kb hkb; simp only [List.mem_singleton] at hkb; subst hkb; exact exp_sl _ _ _) (hr a) (by simp) hn (by simpa using hw) hd ((h a).out v h2)
theorem X.callOL (nb : Nat) (S : List (Nat × Blk)) (L : List Nat) {γ : Type} {m1 : M γ} {kk : γ → M β} {es : TypeId} {sz : Nat} {rows : γ → List (List TV)} {f : FuncId} {args : List Operand} {Ts : Array TypeId} {B : List (TypeId × List TV)} {B' : γ → List (TypeId × List TV)} {aa0 aa : List WV} {rv : γ → SV} (hf : ∀ a, m1 a → FCalls Tryd.prog f B aa (rv a) [.sl es sz false (rows a)] (B' a))
    (h : ∀ a, TS N k all q r (s.eff d ⟨lendNeed S L B, [nb], callUpd true S L (B' a) [nb] [.sl es sz false (rows a)], (rv a).ren (callRen L [nb])⟩) (some ⟨lendNeed S L B, [nb], callUpd true S L (B' a) [nb] [.sl es sz false (rows a)], (rv a).ren (callRen L [nb])⟩ :: τ) (kk a))
    (ha : argsW S L s.ev args = some aa0 := by exact rfl) (haa : aa0.map tzW = aa := by exact rfl) (hn : s.needOk (lendNeed S L B) := by exact trivial) (hl : L.length = B.length := by exact rfl) (hS : S.all (fun p => p.2.isSl) = true := by exact rfl) (hnd : nodupB (L ++ [nb] ++ S.map (·.1)) = true := by exact rfl) (hr : ∀ a, (rv a).below (B.length + 1) = true := by exact fun _ => rfl) (hw : s.freshB k nb = true := by exact rfl) (hd : dstB N d = true := by exact rfl) : TS N k all q (⟨d, .call { callee := .value (.func f), args := args.toArray, argTypes := Ts }, ty, pos, aft, none⟩ :: r) s τ (M.call m1 kk) := by
  refine ⟨fun v hv => ?_⟩
  obtain ⟨a, h1, h2⟩ := M.call_iff.1 hv
  subst haa
  exact G.call true S L [nb] (FCalls.tz (hf a h1)) ha hl hS (nodupB_ok hnd) rfl (by intro kb hkb; simp only [List.mem_singleton] at hkb; subst hkb; exact exp_sl _ _ _) (hr a) (by simp) hn (by simpa using hw) hd ((h a).out v h2)
theorem Ret.cloO {rs : List ResultVar} {rv : SV} {B' : List (TypeId × List TV)} (b : Nat) (l : List WV) {e : TypeId} {sz : Nat} {rows : List (List TV)} (h : ResOk Tryd.prog s rs l) (hB : HeapIs s (expRen k [b]) 0 B') (hb : lookH s.heap b = some (.sl e sz false rows) := by exact rfl) (hkb : Nat.ble k b = true := by exact rfl) (hr : resSV l = rv.ren (expRen k [b]) := by exact rfl) (hbl : rv.below (k + 1) = true := by exact rfl) : Ret N k rs rv [.sl e sz false rows] B' s := by
  refine ⟨s, .refl s, l, [b], h, hr, ⟨hb, rfl, trivial⟩, ?_, hB, hbl⟩
  have := Nat.le_of_ble_eq_true hkb
  refine List.nodup_append.2 ⟨List.nodup_range, by simp, ?_⟩
  intro a ha c hc
  have := List.mem_range.1 ha
  simp at hc
  omega
end
/-! a slice compared to nil -/
section
variable {N k : Nat} {β : Type} {q : β → Po} {s : St} {m1 m2 : M β}
theorem VW.nilTest {P : Program} {Q : Exit → St → Prop} {id d1 d2 : Nat} {T T' ty1 ty2 : TypeId} {yT : Ty} {e : TypeId} {pos1 pos2 : String} {aft1 aft2 : Array Edge} {x : Operand} {rows : List (List TV)} (hx : s.ev x = tS rows) (hy : TyFits P T yT) (hs : yT.shp = .slice e) (hd1 : dstB N (some d1) = true) (hd2 : dstB N (some d2) = true)
    (h1 : rows = [] → Q .normal ((s.put (some d1) (tS rows)).put (some d2) (bS true))) (h2 : Q .normal ((s.put (some d1) (tS rows)).put (some d2) (bS false))) :
    VW P N k (.region id #[⟨some d1, .move x, ty1, pos1, aft1, none⟩, ⟨some d2, .binOp .eql T (.tmp d1) (.const (.slice none 0 0)) T', ty2, pos2, aft2, none⟩] false) Q s := by
  intro C w a hk hr
  have hstep : StepOk P N k ⟨some d1, .move x, ty1, pos1, aft1, none⟩ s ⟨[], [], [], tS rows⟩ := by
    rw [← hx]
    exact ⟨OStep.move rfl, trivial, rfl, hd1⟩
  refine wp_region_lit (l := [⟨some d1, .move x, ty1, pos1, aft1, none⟩, ⟨some d2, .binOp .eql T (.tmp d1) (.const (.slice none 0 0)) T', ty2, pos2, aft2, none⟩]) ?_
  refine wpList_step fun K' hK' => ?_
  rw [if_pos (by simp [Region.wanted])]
  refine step_wp hk hstep hr fun a' w' hr' => hK' _ _ ?_
  refine wpList_step fun K' hK' => ?_
  rw [if_pos (by simp [Region.wanted])]
  obtain ⟨η, F, hR⟩ := hr'
  have hslot := hR.slots d1
  have hsl : (s.eff (some d1) ⟨[], [], [], tS rows⟩).sl d1 = tS rows := by rw [St.eff_sl]; simp [Sl.put]
  rw [hsl] at hslot
  have htr : Tr w' F (.tree rows) (a'.tmps.getD d1 undef) := hslot
  obtain ⟨ad, n, c, hv, hnil⟩ : ∃ ad n c, a'.tmps.getD d1 undef = .slice ad n c ∧ (ad.isNone = true → rows = []) := by
    generalize a'.tmps.getD d1 undef = u at htr
    cases htr with
    | empty a c hm => exact ⟨_, _, _, rfl, fun _ => rfl⟩
    | tree => exact ⟨_, _, _, rfl, fun h => by cases h⟩
  have hex : (execOp a'.eval ⟨some d2, .binOp .eql T (.tmp d1) (.const (.slice none 0 0)) T', ty2, pos2, aft2, none⟩).run P w' = .ok (.value (.bool ad.isNone)) w' := by
    have e1 : a'.eval (.tmp d1) = .slice ad n c := hv
    have e2 : a'.eval (.const (.slice none 0 0)) = .slice none 0 0 := rfl
    have hq : (Op.equal T (.slice ad n c) (.slice none 0 0)).run P w' = .ok ad.isNone w' := run_equal_slice_nil w' T e ad n c (hy.slice hs)
    have hb : binOp .eql T (.slice ad n c) (.slice none 0 0) = (do Pure.pure (Value.bool (← Op.equal T (.slice ad n c) (.slice none 0 0)))) := rfl
    have hg : (eqGuard .eql T (.tmp d1) (.const (.slice none 0 0)) (.slice ad n c) (.slice none 0 0)).run P w' = .ok () w' := rfl
    unfold execOp
    simp only [e1, e2, Sem.run_bind, hg, Result.andThen_ok, hb, hq]
    rfl
  have hput : ∀ b : Bool, ((s.put (some d1) (tS rows)).put (some d2) (bS b)).Rep C N w' (a'.put (some d2) (.bool b)) := fun b => by
    have := hR.put (d := some d2) (r := bS b) (u := .bool b) (Tr.bool b) (fun t ht => by injection ht with ht; subst ht; simpa [dstB, Nat.blt_eq] using hd2)
    refine ⟨η, F, ?_⟩
    rw [St.eff_sl, St.eff_hp] at this
    rw [St.put_sl, St.put_sl]
    exact this
  unfold Oper.wp
  rw [hex]
  refine hK' _ _ (wpList_nil ?_)
  cases hb : ad.isNone with
  | true => exact ⟨_, h1 (hnil hb), hput true⟩
  | false => exact ⟨_, h2, hput false⟩
theorem VS.nilTest {α : Type} {g : α → List TV} {l : List α} {id d1 d2 : Nat} {T T' ty1 ty2 : TypeId} {yT : Ty} {e : TypeId} {pos1 pos2 : String} {aft1 aft2 : Array Edge} {x : Operand}
    (h1 : ES q .normal ((s.put (some d1) (tS (l.map g))).put (some d2) (bS true)) m1) (h2 : ES q .normal ((s.put (some d1) (tS (l.map g))).put (some d2) (bS false)) m2)
    (hx : s.ev x = tS (l.map g) := by exact rfl) (hT : tys.get T = some yT := by exact rfl) (hs : yT.shp = .slice e := by exact rfl) (hd1 : dstB N (some d1) = true := by exact rfl) (hd2 : dstB N (some d2) = true := by exact rfl) :
    VS N k (.region id #[⟨some d1, .move x, ty1, pos1, aft1, none⟩, ⟨some d2, .binOp .eql T (.tmp d1) (.const (.slice none 0 0)) T', ty2, pos2, aft2, none⟩] false) q s (M.both (l = []) m1 m2) := by
  refine ⟨fun r hr => ⟨?_⟩⟩
  obtain ⟨ha, hb⟩ := M.both_iff.1 hr
  exact VW.nilTest hx (fits hT) hs hd1 hd2 (fun he => (h1.out r (ha (List.map_eq_nil_iff.1 he))).out) (h2.out r hb).out
end
/-- A nil slice in a cell of a variable is taken as a slice of one's own without elements. -/
theorem St.le_adoptC {N k : Nat} (s : St) (b n nb : Nat) (e : TypeId) (sz : Nat) {eb : TypeId} {cells : List AV} (hb : lookH s.heap b = some (.bx eb cells)) (hx : cells[n]? = some (.v .nil)) (hne : Nat.beq b nb = false) (hf : s.freshB k nb = true) : St.le N k s ⟨s.slots, setH (setH s.heap nb (some (.sl e sz false []))) b (some (.bx eb (putA cells n (.mref nb))))⟩ := by
  have hbn : b ≠ nb := fun e => by subst e; rw [Nat.beq_refl] at hne; cases hne
  rintro C w a hk ⟨η, F, hR⟩
  obtain ⟨h1, h2, h3, h4⟩ := St.fresh hf
  have hst : ∀ c, c ≠ nb → Stays η (ηSet η nb (.slice none 0 0)) s.hp (hpSet s.hp nb (some (.sl e sz false []))) c := fun c hc => Stays.of_same (hpSet_other hc) (ηSet_other hc)
  have hH : HRep C w (ηSet η nb (.slice none 0 0)) F (hpSet s.hp nb (some (.sl e sz false []))) := hR.heap.new (fun _ _ => rfl) (Nat.le_refl _) rfl rfl rfl h1 h2 (by rw [hk]; exact h4) (fun g hg => by cases hg) rfl
    ⟨[], by rw [ηSet_same]; exact World.ownsRow_nil w 0 e sz, by simp, by simp⟩
  have hsl : ∀ t', SRep w F (ηSet η nb (.slice none 0 0)) (hpSet s.hp nb (some (.sl e sz false []))) (s.sl t') (a.tmps.getD t' undef) := fun t' => by
    refine hR.heap.slot (hR.slots t') (fun _ h => h) (fun _ _ => rfl) fun c => ?_
    by_cases hc : c = nb
    · subst hc; exact .inl (h3 t')
    · exact .inr (hst c hc)
  have hηn : ηSet η nb (.slice none 0 0) nb = .slice none 0 0 := ηSet_same _ _ _
  generalize ηSet η nb (.slice none 0 0) = η1 at *
  have hpb : hpSet s.hp nb (some (.sl e sz false [])) b = some (.bx eb cells) := by rw [hpSet_other hbn]; exact hb
  have hpn : hpSet s.hp nb (some (.sl e sz false [])) nb = some (.sl e sz false []) := hpSet_same _ _ _
  have he : (lookH (setH (setH s.heap nb (some (.sl e sz false []))) b (some (.bx eb (putA cells n (.mref nb)))))) = hpSet (hpSet s.hp nb (some (.sl e sz false []))) b (some (.bx eb (putA cells n (.mref nb)))) := by
    funext c
    rw [lookH_setH]
    unfold hpSet
    by_cases hc : c = b
    · subst hc; simp
    · rw [if_neg hc, lookH_setH]
      simp only [hc, if_false]
      rfl
  generalize hpSet s.hp nb (some (.sl e sz false [])) = hp1 at *
  obtain ⟨g, cs, q1, q2, q3⟩ := hH.blocks b _ hpb
  have hst2 : Stays η1 η1 hp1 (hpSet hp1 b (some (.bx eb (putA cells n (.mref nb))))) b := .inr (.inr (.inl ⟨eb, cells, _, hpb, hpSet_same _ _ _, rfl⟩))
  have hsta : ∀ c, Stays η1 η1 hp1 (hpSet hp1 b (some (.bx eb (putA cells n (.mref nb))))) c := fun c => by
    by_cases hc : c = b
    · subst hc; exact hst2
    · exact Stays.of_same (hpSet_other hc) rfl
  have hput : ∀ (l : List AV) (n : Nat) (i : Nat) (y : AV), (putA l n (.mref nb))[i]? = some y → (i ≠ n ∧ l[i]? = some y) ∨ (i = n ∧ y = .mref nb) := by
    intro l
    induction l with
    | nil => intro n i y h; simp [putA] at h
    | cons a r ih =>
      intro n i y h
      cases n with
      | zero => cases i with
        | zero => simp [putA] at h; exact .inr ⟨rfl, h.symm⟩
        | succ i => simp [putA] at h; exact .inl ⟨by omega, by simpa using h⟩
      | succ n => cases i with
        | zero => simp [putA] at h; exact .inl ⟨by omega, by simpa using h⟩
        | succ i =>
          simp [putA] at h
          rcases ih n i y h with ⟨h1, h2⟩ | ⟨h1, h2⟩
          · exact .inl ⟨by omega, by simpa using h2⟩
          · exact .inr ⟨by omega, h2⟩
  have q4 : CsRep w F η1 hp1 (putA cells n (.mref nb)) cs := ⟨by rw [putA_length]; exact q3.1, q3.2.1, fun i y u hy hu => by
    rcases hput cells n i y hy with ⟨_, h5⟩ | ⟨h5, h6⟩
    · exact q3.2.2 i y u h5 hu
    · subst h5 h6
      have := Tr.nil_inv (show Tr w F .nil u from q3.2.2 i _ u hx hu)
      simp only [CRep, hpn]
      rw [this, hηn]⟩
  have hH2 := hH.write (b := b) (k' := .bx eb (putA cells n (.mref nb))) hpb rfl rfl (by rw [q1]; rfl) hst2 (fun _ _ _ => ⟨_, _, rfl⟩) (fun _ _ => rfl) rfl rfl rfl rfl
    ⟨g, cs, q1, q2, csRep_new hH q4 (fun _ _ => rfl) fun c _ => hsta c⟩
  refine ⟨η1, F, hR.size, hR.defers, fun t => ?_, ?_⟩
  · show SRep w F η1 (lookH (setH _ b _)) _ _
    rw [he]
    exact hH.slot (hsl t) (fun _ h => h) (fun _ _ => rfl) fun c => .inr (hsta c)
  · show HRep C w η1 F (lookH (setH _ b _))
    rw [he]; exact hH2
end Go.Proofs.YtpjmpkgllnomaaaDoor
