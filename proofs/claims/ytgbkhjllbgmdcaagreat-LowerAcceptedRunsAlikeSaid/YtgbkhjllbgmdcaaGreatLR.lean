/- Texts of the claim, one behind the other. -/
import Derived.Test.YtgbkhjllbgmdcaaGreatMc
import Derived.Test.YtgbkhjllbgmdcaaGreatPureB
import Derived.Laws.Entries
import Derived.Laws.Cover3
import Derived.Laws.CopyRow
import Derived.Laws.IdiomCopy
set_option maxRecDepth 20000
namespace Go.Proofs.YtgbkhjllbgmdcaaGreat
open Go.RowKit Q
section
variable {P:Program} {o:Oper} {ev:Operand→SV}
theorem OStep.bitsG {op:BinOp} {T T':TypeId} {x y:Operand} {k:IntKind} {m n:Int} (hop:op=.and∨op=.or∨op=.xor∨op=.andNot) (ho:o.op=.binOp op T x y T') (hx:ev x=iS k m) (hy:ev y=iS k n):OStep P o ev ⟨[],[],[],iS k (Go.bits op k m n)⟩:=
 .int2 ho hx hy (v:=.int k (Go.bits op k m n)) (fun w=>by rcases hop with rfl| rfl| rfl| rfl<;>simp [go_sem]) (fun _ _=> .int _ _)
theorem OStep.addW {T T':TypeId} {x y:Operand} {m n:Int} (ho:o.op=.binOp .add T x y T') (hx:ev x=iS .i64 m) (hy:ev y=iS .i64 n):OStep P o ev ⟨[],[],[],iS .i64 (IntKind.i64.wrap (m+n))⟩:=
 .int2 ho hx hy (v:=.int .i64 (IntKind.i64.wrap (m+n))) (fun w=>by simp [binOp,Op.intArith]) (fun _ _=> .int _ _)
end
section
variable {N k:Nat} {β:Type} {q:β→Po} {s:St} {m m1 m2:M β} {all r:List Oper} {τ:List (Option Eff)} {d:Option Tmp} {ty:TypeId} {pos:String} {aft:Array Edge} {x y z:Operand} {T T' e:TypeId} {kd:IntKind} {yT ye:Ty}
theorem X.bits {op:BinOp} {i j:Int} (h:TS N k all q r (s.put d (iS kd (Go.bits op kd i j))) (some ⟨[],[],[],iS kd (Go.bits op kd i j)⟩::τ) m) (hop:op=.and∨op=.or∨op=.xor∨op=.andNot:=by decide) (hx:s.ev x=iS kd i:=by exact rfl) (hy:s.ev y=iS kd j:=by exact rfl) (hd:dstB N d=true:=by exact rfl):TS N k all q (⟨d,.binOp op T x y T',ty,pos,aft,none⟩::r) s τ m:=by
 refine X.op (OStep.bitsG (P:=Tryz.prog) (o:=⟨d,.binOp op T x y T',ty,pos,aft,none⟩) hop rfl hx hy) trivial rfl hd ?_
 exact h
theorem X.remS {i j:Int} (h:j≠0→TS N k all q r (s.put d (iS .i64 (i.tmod j))) (some ⟨[],[],[],iS .i64 (i.tmod j)⟩::τ) m) (hx:s.ev x=iS .i64 i:=by exact rfl) (hy:s.ev y=iS .i64 j:=by exact rfl) (hd:dstB N d=true:=by exact rfl):TS N k all q (⟨d,.binOp .rem T x y T',ty,pos,aft,none⟩::r) s τ (M.chk (j≠0) m):=by
 refine X.chk fun hj=>X.op (OStep.rem (P:=Tryz.prog) (o:=⟨d,.binOp .rem T x y T',ty,pos,aft,none⟩) rfl hx hy hj) trivial rfl hd ?_
 exact h hj
theorem X.addW {i j:Int} (h:TS N k all q r (s.put d (iS .i64 (IntKind.i64.wrap (i+j)))) (some ⟨[],[],[],iS .i64 (IntKind.i64.wrap (i+j))⟩::τ) m) (hx:s.ev x=iS .i64 i:=by exact rfl) (hy:s.ev y=iS .i64 j:=by exact rfl) (hd:dstB N d=true:=by exact rfl):TS N k all q (⟨d,.binOp .add T x y T',ty,pos,aft,none⟩::r) s τ m:=by
 refine X.op (OStep.addW (P:=Tryz.prog) (o:=⟨d,.binOp .add T x y T',ty,pos,aft,none⟩) rfl hx hy) trivial rfl hd ?_
 exact h
theorem X.stR {b i off:Nat} {eb:TypeId} {cells:List AV} {v:WV} (h:TS N k all q r (s.eff d ⟨[(b,.bx eb cells)],[],[(b,some (.bx eb (putAt cells off v.cells)))],SV.any⟩) (some ⟨[(b,.bx eb cells)],[],[(b,some (.bx eb (putAt cells off v.cells)))],SV.any⟩::τ) m) (hx:s.ev x=.w (.c (.ptr b i off)):=by exact rfl) (hb:lookH s.heap b=some (.bx eb cells):=by exact rfl) (hz:s.ev z=.w v:=by exact rfl) (hT:tys.get T=some yT:=by exact rfl) (hok:v.ok=true:=by exact rfl) (hl:v.cells.length=yT.size:=by exact rfl) (hle:Nat.ble (off+yT.size) cells.length=true:=by exact rfl) (hd:dstB N d=true:=by exact rfl):TS N k all q (⟨d,.store T x z,ty,pos,aft,none⟩::r) s τ m:=by
 refine X.op (OStep.storeBx (P:=Tryz.prog) (o:=⟨d,.store T x z,ty,pos,aft,none⟩) rfl hx hz (fits hT) hok hl (Nat.le_of_ble_eq_true hle)) ⟨hb,trivial⟩ rfl hd ?_
 exact h
theorem X.allocR (nb:Nat) (h:TS N k all q r (s.eff d ⟨[],[nb],[(nb,some (.bx T (yT.zero.map .v)))],.w (.c (.ptr nb 0 0))⟩) (some ⟨[],[nb],[(nb,some (.bx T (yT.zero.map .v)))],.w (.c (.ptr nb 0 0))⟩::τ) m) (hT:tys.get T=some yT:=by exact rfl) (hz:yT.zero.isEmpty=false:=by exact rfl) (hw:s.freshB k nb=true:=by exact rfl) (hd:dstB N d=true:=by exact rfl):TS N k all q (⟨d,.alloc T,ty,pos,aft,none⟩::r) s τ m:=by
 refine X.op (OStep.alloc (P:=Tryz.prog) (b:=nb) (o:=⟨d,.alloc T,ty,pos,aft,none⟩) rfl (fits hT) (by intro e;rw [e] at hz;cases hz)) trivial (by simpa using hw) hd ?_
 exact h
theorem X.boxR (nb:Nat) {v:WV} (h:TS N k all q r (s.eff d ⟨[],[nb],[(nb,some (.bx T v.cells))],.w (.c (.ptr nb 0 0))⟩) (some ⟨[],[nb],[(nb,some (.bx T v.cells))],.w (.c (.ptr nb 0 0))⟩::τ) m) (hx:s.ev x=.w v:=by exact rfl) (hok:v.ok=true:=by exact rfl) (hm:v.cells.any (AV.ment nb)=false:=by exact rfl) (hw:s.freshB k nb=true:=by exact rfl) (hd:dstB N d=true:=by exact rfl):TS N k all q (⟨d,.box T x,ty,pos,aft,none⟩::r) s τ m:=by
 refine X.op (OStep.box (P:=Tryz.prog) (o:=⟨d,.box T x,ty,pos,aft,none⟩) rfl hx hok hm) trivial (by simpa using hw) hd ?_
 exact h
theorem X.buildR {parts:List (Nat × Operand)} {lp:List (Nat × WV)} {l:List (Nat × Nat × TypeId)} {cells:List AV} (h:TS N k all q r (s.put d (.w (.agg cells))) (some ⟨[],[],[],.w (.agg cells)⟩::τ) m) (hT:tys.get T=some yT:=by exact rfl) (hs:yT.shp=.struct l:=by exact rfl) (hz:yT.zero.isEmpty=false:=by exact rfl) (hnz:l.all (fun x=>x.2.1 !=0)=true:=by exact rfl) (hpa:partsA s.ev parts=some lp:=by exact rfl) (hr:fillA (placeS l) (yT.zero.map .v) lp=some cells:=by exact rfl) (hd:dstB N d=true:=by exact rfl):TS N k all q (⟨d,.build T parts.toArray,ty,pos,aft,none⟩::r) s τ m:=by
 refine X.op (OStep.build (P:=Tryz.prog) (o:=⟨d,.build T parts.toArray,ty,pos,aft,none⟩) rfl (fits hT) hs (by intro e;rw [e] at hz;cases hz) hnz hpa hr) trivial rfl hd ?_
 exact h
end
section
variable {N k:Nat} {β:Type} {q:β→Po} {s:St} {m:M β} {all r:List Oper} {τ:List (Option Eff)} {d:Option Tmp} {ty:TypeId} {pos:String} {aft:Array Edge}
theorem exp_sl (e:TypeId) (sz:Nat) (rows:List (List TV)):(Blk.sl e sz false rows).exp:=rfl
theorem X.callO (nb:Nat) (S:List (Nat × Blk)) {γ:Type} {m1:M γ} {kk:γ→M β} {es:TypeId} {sz:Nat} {rows:γ→List (List TV)} {f:FuncId} {args:List Operand} {Ts:Array TypeId} {aa0 aa:List WV} {rv:γ→SV} (hf:∀a,m1 a→FCalls Tryz.prog f [] aa (rv a) [.sl es sz false (rows a)] []) (h:∀a,TS N k all q r (s.eff d ⟨lendNeed S [] [],[nb],callUpd true S [] [] [nb] [.sl es sz false (rows a)],(rv a).ren (callRen [] [nb])⟩) (some ⟨lendNeed S [] [],[nb],callUpd true S [] [] [nb] [.sl es sz false (rows a)],(rv a).ren (callRen [] [nb])⟩::τ) (kk a)) (ha:argsW S [] s.ev args=some aa0:=by exact rfl) (haa:aa0.map tzW=aa:=by exact rfl) (hn:s.needOk (lendNeed S [] []):=by first| exact trivial| exact ⟨rfl,trivial⟩| exact ⟨rfl,rfl,trivial⟩| exact ⟨rfl,rfl,rfl,trivial⟩) (hS:S.all (fun p=>p.2.isSl)=true:=by exact rfl) (hnd:nodupB ([]++[nb]++S.map (·.1))=true:=by exact rfl) (hr:∀a,(rv a).below (0+1)=true:=by exact fun _=>rfl) (hw:s.freshB k nb=true:=by exact rfl) (hd:dstB N d=true:=by exact rfl):TS N k all q (⟨d,.call {callee:=.value (.func f),args:=args.toArray,argTypes:=Ts},ty,pos,aft,none⟩::r) s τ (M.call m1 kk):=by
 refine ⟨fun v hv=>?_⟩
 obtain ⟨a,h1,h2⟩:=M.call_iff.1 hv
 subst haa
 exact G.call true S [] [nb] (FCalls.tz (hf a h1)) ha rfl hS (nodupB_ok hnd) rfl (by intro kb hkb;simp only [List.mem_singleton] at hkb;subst hkb;exact exp_sl _ _ _) (hr a) (by simp) hn (by simpa using hw) hd ((h a).out v h2)
theorem Ret.cloO {rs:List ResultVar} {rv:SV} {B':List (TypeId × List TV)} (b:Nat) (l:List WV) {e:TypeId} {sz:Nat} {rows:List (List TV)} (h:ResOk Tryz.prog s rs l) (hB:HeapIs s 0 B') (hb:lookH s.heap b=some (.sl e sz false rows):=by exact rfl) (hkb:Nat.ble k b=true:=by exact rfl) (hr:resSV l=rv.ren (expRen k [b]):=by exact rfl) (hbl:rv.below (k+1)=true:=by exact rfl):Ret N k rs rv [.sl e sz false rows] B' s:=by
 refine ⟨s,.refl s,l,[b],h,hr,⟨hb,rfl,trivial⟩,?_,hB,hbl⟩
 have:=Nat.le_of_ble_eq_true hkb
 refine List.nodup_append.2 ⟨List.nodup_range,by simp,?_⟩
 intro a ha c hc
 have:=List.mem_range.1 ha
 simp at hc
 omega
end
section
variable {N k:Nat} {β:Type} {q:β→Po} {s:St} {m1 m2:M β}
theorem VW.nilTest {P:Program} {Q:Exit→St→Prop} {id d1 d2:Nat} {T T' ty1 ty2:TypeId} {yT:Ty} {e:TypeId} {pos1 pos2:String} {aft1 aft2:Array Edge} {x:Operand} {rows:List (List TV)} (hx:s.ev x=tS rows) (hy:TyFits P T yT) (hs:yT.shp=.slice e) (hd1:dstB N (some d1)=true) (hd2:dstB N (some d2)=true)
 (h1:rows=[]→Q .normal ((s.put (some d1) (tS rows)).put (some d2) (bS true))) (h2:Q .normal ((s.put (some d1) (tS rows)).put (some d2) (bS false))):
 VW P N k (.region id #[⟨some d1,.move x,ty1,pos1,aft1,none⟩,⟨some d2,.binOp .eql T (.tmp d1) (.const (.slice none 0 0)) T',ty2,pos2,aft2,none⟩] false) Q s:=by
 intro C w a hk hr
 have hstep:StepOk P N k ⟨some d1,.move x,ty1,pos1,aft1,none⟩ s ⟨[],[],[],tS rows⟩:=by
  rw [←hx]
  exact ⟨OStep.move rfl,trivial,rfl,hd1⟩
 refine wp_region_lit (l:=[⟨some d1,.move x,ty1,pos1,aft1,none⟩,⟨some d2,.binOp .eql T (.tmp d1) (.const (.slice none 0 0)) T',ty2,pos2,aft2,none⟩]) ?_
 refine wpList_step fun K' hK'=>?_
 rw [if_pos (by simp [Region.wanted])]
 refine step_wp hk hstep hr fun a' w' hr'=>hK' _ _ ?_
 refine wpList_step fun K' hK'=>?_
 rw [if_pos (by simp [Region.wanted])]
 obtain ⟨η,F,hR⟩:=hr'
 have hslot:=hR.slots d1
 have hsl:(s.eff (some d1) ⟨[],[],[],tS rows⟩).sl d1=tS rows:=by rw [St.eff_sl];simp [Sl.put]
 rw [hsl] at hslot
 have htr:Tr w' F (.tree rows) (a'.tmps.getD d1 undef):=hslot
 obtain ⟨ad,n,c,hv,hnil⟩:∃ad n c,a'.tmps.getD d1 undef=.slice ad n c∧(ad.isNone=true→rows=[]):=by
  generalize a'.tmps.getD d1 undef=u at htr
  cases htr with
  | empty a c hm=>exact ⟨_,_,_,rfl,fun _=>rfl⟩
  | tree=>exact ⟨_,_,_,rfl,fun h=>by cases h⟩
 have hex:(execOp a'.eval ⟨some d2,.binOp .eql T (.tmp d1) (.const (.slice none 0 0)) T',ty2,pos2,aft2,none⟩).run P w'=.ok (.value (.bool ad.isNone)) w':=by
  have e1:a'.eval (.tmp d1)=.slice ad n c:=hv
  have e2:a'.eval (.const (.slice none 0 0))=.slice none 0 0:=rfl
  have hq:(Op.equal T (.slice ad n c) (.slice none 0 0)).run P w'=.ok ad.isNone w':=run_equal_slice_nil w' T e ad n c (hy.slice hs)
  have hb:binOp .eql T (.slice ad n c) (.slice none 0 0)=(do Pure.pure (Value.bool (←Op.equal T (.slice ad n c) (.slice none 0 0)))):=rfl
  have hg:(eqGuard .eql T (.tmp d1) (.const (.slice none 0 0)) (.slice ad n c) (.slice none 0 0)).run P w'=.ok () w':=rfl
  unfold execOp
  simp only [e1,e2,Sem.run_bind,hg,Result.andThen_ok,hb,hq]
  rfl
 have hput:∀b:Bool,((s.put (some d1) (tS rows)).put (some d2) (bS b)).Rep C N w' (a'.put (some d2) (.bool b)):=fun b=>by
  have:=hR.put (d:=some d2) (r:=bS b) (u:=.bool b) (Tr.bool b) (fun t ht=>by injection ht with ht;subst ht;simpa [dstB,Nat.blt_eq] using hd2)
  refine ⟨η,F,?_⟩
  rw [St.eff_sl,St.eff_hp] at this
  rw [St.put_sl,St.put_sl]
  exact this
 unfold Oper.wp
 rw [hex]
 refine hK' _ _ (wpList_nil ?_)
 cases hb:ad.isNone with
 | true=>exact ⟨_,h1 (hnil hb),hput true⟩
 | false=>exact ⟨_,h2,hput false⟩
theorem VS.nilTest {α:Type} {g:α→List TV} {l:List α} {id d1 d2:Nat} {T T' ty1 ty2:TypeId} {yT:Ty} {e:TypeId} {pos1 pos2:String} {aft1 aft2:Array Edge} {x:Operand}
 (h1:ES q .normal ((s.put (some d1) (tS (l.map g))).put (some d2) (bS true)) m1) (h2:ES q .normal ((s.put (some d1) (tS (l.map g))).put (some d2) (bS false)) m2)
 (hx:s.ev x=tS (l.map g):=by exact rfl) (hT:tys.get T=some yT:=by exact rfl) (hs:yT.shp=.slice e:=by exact rfl) (hd1:dstB N (some d1)=true:=by exact rfl) (hd2:dstB N (some d2)=true:=by exact rfl):
 VS N k (.region id #[⟨some d1,.move x,ty1,pos1,aft1,none⟩,⟨some d2,.binOp .eql T (.tmp d1) (.const (.slice none 0 0)) T',ty2,pos2,aft2,none⟩] false) q s (M.both (l=[]) m1 m2):=by
 refine ⟨fun r hr=>⟨?_⟩⟩
 obtain ⟨ha,hb⟩:=M.both_iff.1 hr
 exact VW.nilTest hx (fits hT) hs hd1 hd2 (fun he=>(h1.out r (ha (List.map_eq_nil_iff.1 he))).out) (h2.out r hb).out
end
theorem St.le_adoptC {N k:Nat} (s:St) (b n nb:Nat) (e:TypeId) (sz:Nat) {eb:TypeId} {cells:List AV} (hb:lookH s.heap b=some (.bx eb cells)) (hx:cells[n]?=some (.v .nil)) (hne:Nat.beq b nb=false) (hf:s.freshB k nb=true):St.le N k s ⟨s.slots,setH (setH s.heap nb (some (.sl e sz false []))) b (some (.bx eb (putA cells n (.mref nb))))⟩:=by
 have hbn:b≠nb:=fun e=>by subst e;rw [Nat.beq_refl] at hne;cases hne
 rintro C w a hk ⟨η,F,hR⟩
 obtain ⟨h1,h2,h3,h4⟩:=St.fresh hf
 have hst:∀c,c≠nb→Stays η (ηSet η nb (.slice none 0 0)) s.hp (hpSet s.hp nb (some (.sl e sz false []))) c:=fun c hc=>Stays.of_same (hpSet_other hc) (ηSet_other hc)
 have hH:HRep C w (ηSet η nb (.slice none 0 0)) F (hpSet s.hp nb (some (.sl e sz false []))):=hR.heap.new (fun _ _=>rfl) (Nat.le_refl _) rfl rfl rfl h1 h2 (by rw [hk];exact h4) (fun g hg=>by cases hg) rfl
  ⟨[],by rw [ηSet_same];exact World.ownsRow_nil w 0 e sz,by simp,by simp⟩
 have hsl:∀t',SRep w F (ηSet η nb (.slice none 0 0)) (hpSet s.hp nb (some (.sl e sz false []))) (s.sl t') (a.tmps.getD t' undef):=fun t'=>by
  refine hR.heap.slot (hR.slots t') (fun _ h=>h) (fun _ _=>rfl) fun c=>?_
  by_cases hc:c=nb
  ·subst hc;exact .inl (h3 t')
  ·exact .inr (hst c hc)
 have hηn:ηSet η nb (.slice none 0 0) nb=.slice none 0 0:=ηSet_same _ _ _
 generalize ηSet η nb (.slice none 0 0)=η1 at*
 have hpb:hpSet s.hp nb (some (.sl e sz false [])) b=some (.bx eb cells):=by rw [hpSet_other hbn];exact hb
 have hpn:hpSet s.hp nb (some (.sl e sz false [])) nb=some (.sl e sz false []):=hpSet_same _ _ _
 have he:(lookH (setH (setH s.heap nb (some (.sl e sz false []))) b (some (.bx eb (putA cells n (.mref nb))))))=hpSet (hpSet s.hp nb (some (.sl e sz false []))) b (some (.bx eb (putA cells n (.mref nb)))):=by
  funext c
  rw [lookH_setH]
  unfold hpSet
  by_cases hc:c=b
  ·subst hc;simp
  ·rw [if_neg hc,lookH_setH]
   simp only [hc,if_false]
   rfl
 generalize hpSet s.hp nb (some (.sl e sz false []))=hp1 at*
 obtain ⟨g,cs,q1,q2,q3⟩:=hH.blocks b _ hpb
 have hst2:Stays η1 η1 hp1 (hpSet hp1 b (some (.bx eb (putA cells n (.mref nb))))) b:=.inr (.inr (.inl ⟨eb,cells,_,hpb,hpSet_same _ _ _,rfl⟩))
 have hsta:∀c,Stays η1 η1 hp1 (hpSet hp1 b (some (.bx eb (putA cells n (.mref nb))))) c:=fun c=>by
  by_cases hc:c=b
  ·subst hc;exact hst2
  ·exact Stays.of_same (hpSet_other hc) rfl
 have hput:∀(l:List AV) (n:Nat) (i:Nat) (y:AV),(putA l n (.mref nb))[i]?=some y→(i≠n∧l[i]?=some y)∨(i=n∧y=.mref nb):=by
  intro l
  induction l with
  | nil=>intro n i y h;simp [putA] at h
  | cons a r ih=>
    intro n i y h
    cases n with
    | zero=>cases i with
      | zero=>simp [putA] at h;exact .inr ⟨rfl,h.symm⟩
      | succ i=>simp [putA] at h;exact .inl ⟨by omega,by simpa using h⟩
    | succ n=>cases i with
      | zero=>simp [putA] at h;exact .inl ⟨by omega,by simpa using h⟩
      | succ i=>
        simp [putA] at h
        rcases ih n i y h with ⟨h1,h2⟩| ⟨h1,h2⟩
        ·exact .inl ⟨by omega,by simpa using h2⟩
        ·exact .inr ⟨by omega,h2⟩
 have q4:CsRep w F η1 hp1 (putA cells n (.mref nb)) cs:=⟨by rw [putA_length];exact q3.1,q3.2.1,fun i y u hy hu=>by
  rcases hput cells n i y hy with ⟨_,h5⟩| ⟨h5,h6⟩
  ·exact q3.2.2 i y u h5 hu
  ·subst h5 h6
   have:=Tr.nil_inv (show Tr w F .nil u from q3.2.2 i _ u hx hu)
   simp only [CRep,hpn]
   rw [this,hηn]⟩
 have hH2:=hH.write (b:=b) (k':=.bx eb (putA cells n (.mref nb))) hpb rfl rfl (by rw [q1];rfl) hst2 (fun _ _ _=>⟨_,_,rfl⟩) (fun _ _=>rfl) rfl rfl rfl rfl
  ⟨g,cs,q1,q2,csRep_new hH q4 (fun _ _=>rfl) fun c _=>hsta c⟩
 refine ⟨η1,F,hR.size,hR.defers,fun t=>?_,?_⟩
 ·show SRep w F η1 (lookH (setH _ b _)) _ _
  rw [he]
  exact hH.slot (hsl t) (fun _ h=>h) (fun _ _=>rfl) fun c=> .inr (hsta c)
 ·show HRep C w η1 F (lookH (setH _ b _))
  rw [he];exact hH2
set_option linter.unusedVariables false
set_option maxRecDepth 20000
open Go.RowKit Q
section
variable {P:Program} {C:Ctx} {w:World} {η:Nat→Value} {F:Nat→Prop} {sl:Sl} {hp:Hp} {N:Nat} {a:Act} {o:Oper} {ev:Operand→SV} {t:TypeId} {y:Ty}
theorem OStep.idxV {x z:Operand} {cells:List AV} {k:IntKind} {n m:Nat} {et:TypeId} {ye:Ty} {r:WV} (ho:o.op=.index t x z) (hx:ev x=.w (.agg cells)) (hz:ev z=iS k (n:Int)) (hy:TyFits P t y) (hs:y.shp=.array m et) (hye:TyFits P et ye) (hn:n<m) (hr:cut ye cells (n*ye.size)=some r):
 OStep P o ev ⟨[],[],[],.w r⟩:=
 .pure fun C w η F sl hp N a hR hev hnd=>by
  have h1:=hR.eval x
  rw [hev x (by simp [ho,Op.operands]),hx] at h1
  obtain ⟨us,h2,hl,h4,h5⟩:=h1
  have h5':=hR.int ((hev z (by simp [ho,Op.operands])).trans hz)
  have hrun:∀v,(part et us.toArray (n*ye.size)).run P w=.ok v w→(execOp a.eval o).run P w=.ok (.value v) w:=fun v hv=>by
   unfold execOp;rw [ho]
   simp [Instr.index,asIntOf,h5',run_underlying (hy.array hs),hye.run_size,hn,h2,hv]
  unfold cut at hr
  split at hr
  ·rename_i ha
   split at hr
   ·rename_i hle
    injection hr with hr
    subst hr
    refine ⟨.agg (us.toArray.extract (n*ye.size) ((n*ye.size)+ye.size)),hrun _ (by unfold part;rw [Sem.run_bind,hye.run_isAgg,ha];simp [hye.run_size]),(us.drop (n*ye.size)).take ye.size,?_,?_,?_,?_⟩
    ·congr 1;apply Array.ext';simp [List.extract_eq_take_drop]
    ·rw [List.length_take,List.length_drop,List.length_take,List.length_drop,hl]
    ·intro z hz;exact h4 z (List.mem_of_mem_drop (List.mem_of_mem_take hz))
    ·intro i z v hz hv
     rw [List.getElem?_take] at hz hv
     split at hz
     ·rw [if_pos (by assumption)] at hv
      rw [List.getElem?_drop] at hz hv
      exact h5 _ _ _ hz hv
     ·cases hz
   ·cases hr
  ·rename_i ha
   rw [Option.map_eq_some_iff] at hr
   obtain ⟨z,h12,rfl⟩:=hr
   have hlt:(n*ye.size)<us.length:=by rw [hl];exact (List.getElem?_eq_some_iff.1 h12).1
   refine ⟨us[n*ye.size],hrun _ (by unfold part;rw [Sem.run_bind,hye.run_isAgg,Bool.eq_false_iff.2 ha];simp [hlt]),h5 (n*ye.size) z _ h12 (List.getElem?_eq_getElem hlt)⟩
end
section
variable {N k:Nat} {β γ:Type} {q:β→Po} {s:St} {all r:List Oper} {τ:List (Option Eff)} {m m1 m2:M β} {d:Option Tmp} {ty:TypeId} {pos:String} {aft:Array Edge} {x y z:Operand} {T T' e:TypeId} {kd:IntKind} {yT ye:Ty}
theorem X.idxE (n:Nat) {i:Int} {cells:List AV} {qn:Nat} {et:TypeId} {v:WV} (hi:decide (i=(n:Int))=true) (h:TS N k all q r (s.put d (.w v)) (some ⟨[],[],[],.w v⟩::τ) m) (hx:s.ev x=.w (.agg cells):=by exact rfl) (hz:s.ev z=iS kd i:=by exact rfl) (hT:tys.get T=some yT:=by exact rfl) (hs:yT.shp=.array qn et:=by exact rfl) (he:tys.get et=some ye:=by exact rfl) (hn:Nat.blt n qn=true:=by exact rfl) (hr:cut ye cells (n*ye.size)=some v:=by exact rfl) (hd:dstB N d=true:=by exact rfl):TS N k all q (⟨d,.index T x z,ty,pos,aft,none⟩::r) s τ m:=
 X.op (ρ:=⟨[],[],[],.w v⟩) (OStep.idxV (P:=Tryz.prog) rfl hx (by rw [hz,of_decide_eq_true hi]) (fits hT) hs (fits he) (by simpa [Nat.blt_eq] using hn) hr) trivial rfl hd h
theorem X.idxAE (n:Nat) {i:Int} {b i0 off qn:Nat} {eb et:TypeId} {cells:List AV} (hi:decide (i=(n:Int))=true) (h:TS N k all q r (s.put d (.w (.c (.ptr b i0 (off+n*ye.size))))) (some ⟨[(b,.bx eb cells)],[],[],.w (.c (.ptr b i0 (off+n*ye.size)))⟩::τ) m) (hx:s.ev x=.w (.c (.ptr b i0 off)):=by exact rfl) (hb:lookH s.heap b=some (.bx eb cells):=by exact rfl) (hz:s.ev z=iS kd i:=by exact rfl) (hT:tys.get T=some yT:=by exact rfl) (hs:yT.shp=.array qn et:=by exact rfl) (he:tys.get et=some ye:=by exact rfl) (hn:Nat.blt n qn=true:=by exact rfl) (hd:dstB N d=true:=by exact rfl):TS N k all q (⟨d,.indexAddr T x z,ty,pos,aft,none⟩::r) s τ m:=
 X.up h fun _ hK=>G.idxA hx (by rw [hz,of_decide_eq_true hi]) hb hT hs he (by simpa [Nat.blt_eq] using hn) hd hK
end
set_option linter.unusedSimpArgs false
open Go.RowKit Q
section
variable {N k:Nat} {β:Type} {q q':β→Po} {s:St} {m:M β} {all l:List Oper} {τ:List (Option Eff)} {id:Nat} {c c' c'':Code}
theorem SR (h:TS N k l (fun r=> .thn (VWp N k c' (q r)) (q r)) l s [] m):VS N k (.seq (.region id l.toArray false) c') q s m:=VS.seq (VS.region h)
theorem NS (h:VS N k c q s m):TS N k all (fun r=> .thn (VWp N k c (q r)) (q' r)) [] s τ m:=X.nil (ES.seq h)
theorem NQ (h:VS N k c (fun r=> .thn (VWp N k c' (q r)) (q r)) s m):TS N k all (fun r=> .thn (VWp N k (.seq c c') (q r)) (q' r)) [] s τ m:=NS (VS.seq h)
theorem NR (h:TS N k l (fun r=> .thn (VWp N k c' (q r)) (q r)) l s [] m):TS N k all (fun r=> .thn (VWp N k (.seq (.region id l.toArray false) c') (q r)) (q' r)) [] s τ m:=NS (SR h)
theorem NV (h:TS N k l (fun r=> .thn (VWp N k c' (.thn (VWp N k c'' (q r)) (q r))) (.thn (VWp N k c'' (q r)) (q r))) l s [] m):TS N k all (fun r=> .thn (VWp N k (.seq (.seq (.region id l.toArray false) c') c'') (q r)) (q' r)) [] s τ m:=NQ (SR h)
theorem KS (h:VS N k c q s m):VS N k .skip (fun r=> .thn (VWp N k c (q r)) (q' r)) s m:=VS.skip (ES.seq h)
theorem KR (h:TS N k l (fun r=> .thn (VWp N k c' (q r)) (q r)) l s [] m):VS N k .skip (fun r=> .thn (VWp N k (.seq (.region id l.toArray false) c') (q r)) (q' r)) s m:=KS (SR h)
theorem NG (h:TS N k l q l s [] m) (hp:∀r,(q r).plain=true:=by exact fun _=>rfl):TS N k all (fun r=> .thn (VWp N k (.region id l.toArray false) (q r)) (q' r)) [] s τ m:=NS (VS.region h hp)
theorem EG (h:TS N k l q l s [] m) (hp:∀r,(q r).plain=true:=by exact fun _=>rfl):ES (fun r=> .thn (VWp N k (.region id l.toArray false) (q r)) (q' r)) .normal s m:=ES.seq (VS.region h hp)
theorem NB {i:Nat} (h:TS N k l q l s [] m) (hp:∀r,(q r).plain=true:=by exact fun _=>rfl):TS N k all (fun r=> .blk i (.thn (VWp N k (.region id l.toArray false) (q r)) (q' r))) [] s τ m:=X.nil (ES.blkN (EG h hp))
theorem KB {i:Nat} (h:TS N k l q l s [] m) (hp:∀r,(q r).plain=true:=by exact fun _=>rfl):VS N k .skip (fun r=> .blk i (.thn (VWp N k (.region id l.toArray false) (q r)) (q' r))) s m:=VS.skip (ES.blkN (EG h hp))
theorem NK {i:Nat} (h:TS N k l (fun r=> .blk i (q r)) l s [] m):TS N k all (fun r=> .thn (VWp N k (.block i (.region id l.toArray false)) (q r)) (q' r)) [] s τ m:=NS (VS.block (VS.region h))
theorem ND {l:List Oper} {s0:St} (h:ES q .normal s m) (hd:drawB l s0 k τ.reverse=true:=by kernel_rfl):TS N k all (fun r=> .drw l s0 (q r)) [] s τ m:=X.nilD h hd
theorem SS (h:TS N k l (fun r=> .thn (VWp N k c' (.thn (VWp N k c'' (q r)) (q r))) (.thn (VWp N k c'' (q r)) (q r))) l s [] m):VS N k (.seq (.seq (.region id l.toArray false) c') c'') q s m:=VS.seq (SR h)
theorem NO {i:Nat} (h:VS N k c (fun r=> .blk i (q r)) s m):TS N k all (fun r=> .thn (VWp N k (.block i c) (q r)) (q' r)) [] s τ m:=NS (VS.block h)
theorem NT (h:ES q .ret s m):TS N k all (fun r=> .thn (VWp N k .ret (q r)) (q' r)) [] s τ m:=NS (VS.ret h)
theorem NU {next:β→St→Prop} (h:ES q .ret s m):TS N k all (fun r=> .thn (VWp N k .ret (.thn (next r) (q r))) (q' r)) [] s τ m:=NT (ES.thnR h)
theorem KW {i:Nat} (h:TS N k l (fun r=> .thn (VWp N k c' (.blk i (.thn (VWp N k c'' (q r)) (q r)))) (.blk i (.thn (VWp N k c'' (q r)) (q r)))) l s [] m):VS N k .skip (fun r=> .thn (VWp N k (.seq (.block i (.seq (.region id l.toArray false) c')) c'') (q r)) (q' r)) s m:=KS (VS.seq (VS.block (SR h)))
theorem XE {i:Nat} {n1 n2:β→St→Prop} (h:TS N k l (fun r=> .thn (VWp N k c' (q r)) (q r)) l s [] m):VS N k (.exit i) (fun r=> .thn (n1 r) (.thn (n2 r) (.blk i (.thn (VWp N k (.seq (.region id l.toArray false) c') (q r)) (q' r))))) s m:=VS.exit (ES.thnE (ES.thnE (ES.blkE (ES.seq (SR h)))))
section
variable {r:List Oper} {d d1 d2 d3:Option Tmp} {ty ty1 ty2 ty3:TypeId} {pos pos1 pos2 pos3:String} {aft aft1 aft2 aft3:Array Edge} {op op1 op2 op3:Op} {v v1 v2 v3:SV} {need need1 need2 need3:List (Nat × Blk)}
theorem K1 (h':TS N k all q r (s.put d v) (some ⟨need,[],[],v⟩::τ) m) (h:stepF s op=some (v,need,True):=by exact rfl) (hd:dstB N d=true:=by exact rfl):TS N k all q (⟨d,op,ty,pos,aft,none⟩::r) s τ m:=X.lk h' h hd
theorem K2 (h':TS N k all q r ((s.put d v).put d1 v1) (some ⟨need1,[],[],v1⟩::some ⟨need,[],[],v⟩::τ) m) (h:stepF s op=some (v,need,True):=by exact rfl) (hd:dstB N d=true:=by exact rfl) (h1:stepF (s.put d v) op1=some (v1,need1,True):=by exact rfl) (hd1:dstB N d1=true:=by exact rfl):TS N k all q (⟨d,op,ty,pos,aft,none⟩::⟨d1,op1,ty1,pos1,aft1,none⟩::r) s τ m:=X.lk (X.lk h' h1 hd1) h hd
theorem K3 (h':TS N k all q r (((s.put d v).put d1 v1).put d2 v2) (some ⟨need2,[],[],v2⟩::some ⟨need1,[],[],v1⟩::some ⟨need,[],[],v⟩::τ) m) (h:stepF s op=some (v,need,True):=by exact rfl) (hd:dstB N d=true:=by exact rfl) (h1:stepF (s.put d v) op1=some (v1,need1,True):=by exact rfl) (hd1:dstB N d1=true:=by exact rfl) (h2:stepF ((s.put d v).put d1 v1) op2=some (v2,need2,True):=by exact rfl) (hd2:dstB N d2=true:=by exact rfl):TS N k all q (⟨d,op,ty,pos,aft,none⟩::⟨d1,op1,ty1,pos1,aft1,none⟩::⟨d2,op2,ty2,pos2,aft2,none⟩::r) s τ m:=K2 (X.lk h' h2 hd2) h hd h1 hd1
end
theorem R1 {t:Nat} {x:WV} {rv:SV} (h:lookS s.slots t=.w x:=by exact rfl) (hr:SV.w x=rv:=by exact rfl) (hren:rv.ren (expRen k [])=rv:=by exact rfl) (hb:rv.below k=true:=by exact rfl):Ret N k [.tmp t] rv [] [] s:=Ret.clo [x] ⟨h,trivial⟩ trivial hr hren hb
end
def subF (h:List (Option Blk)):Nat→List (Option Blk)→List (Option Blk)
 | _,[]=>[]
 | b,some _::r=>lookH h b::subF h (b+1) r
 | b,none::r=>none::subF h (b+1) r
def noneB (k:Nat):Nat→List (Option Blk)→Bool
 | _,[]=>true
 | b,some _::r=>noneB k (b+1) r
 | b,none::r=>Nat.ble k b&&noneB k (b+1) r
theorem subS_of {l:List (Nat × SV)}:∀{m:List (Nat × SV)},m.map (fun p=>lookS l p.1)=m.map (·.2)→SubS l m
 | [],_=>trivial
 | (t,v)::r,h=>by
   simp only [List.map_cons,List.cons.injEq] at h
   exact ⟨h.1,subS_of h.2⟩
theorem subH_of {k:Nat} {h:List (Option Blk)}:∀{m:List (Option Blk)} {b:Nat},subF h b m=m→noneB k b m=true→SubH k h b m
 | [],_,_,_=>trivial
 | some x::r,b,h1,h2=>by
   simp only [subF,List.cons.injEq] at h1
   exact ⟨h1.1,subH_of h1.2 h2⟩
 | none::r,b,h1,h2=>by
   simp only [subF,List.cons.injEq,true_and] at h1
   simp only [noneB,Bool.and_eq_true] at h2
   exact ⟨h2.1,subH_of h1 h2.2⟩
theorem LSB {N k:Nat} {s:St} {l:List (Nat × SV)} {h:List (Option Blk)} (hs:l.map (fun p=>lookS s.slots p.1)=l.map (·.2)) (hh:subF s.heap 0 h=h) (hn:noneB k 0 h=true) (hl:Nat.ble k h.length=true):St.le N k s ⟨l,h⟩:=St.le_sub (subS_of hs) (subH_of hh hn) hl
section
variable {N k:Nat} {β γ:Type} {q q':β→Po} {s:St} {c:Code} {S:γ→St}
theorem JL {kk:γ→M β} (ih:∀j r,kk j r→VWp N k c (q r) (S j)) {j:γ} (hs:(S j).slots.map (fun p=>lookS s.slots p.1)=(S j).slots.map (·.2):=by exact rfl) (hh:subF s.heap 0 (S j).heap=(S j).heap:=by exact rfl) (hn:noneB k 0 (S j).heap=true:=by exact rfl) (hl:Nat.ble k (S j).heap.length=true:=by exact rfl):ES (fun r=> .thn (VWp N k c (q r)) (q' r)) .normal s (kk j):=ES.jn ih j (LSB hs hh hn hl)
theorem GL {n:Nat} {again:γ→M β} (ih:∀j r,again j r→VR N k c (q r) n (S j)) {j:γ} (hs:(S j).slots.map (fun p=>lookS s.slots p.1)=(S j).slots.map (·.2):=by exact rfl) (hh:subF s.heap 0 (S j).heap=(S j).heap:=by exact rfl) (hn:noneB k 0 (S j).heap=true:=by exact rfl) (hl:Nat.ble k (S j).heap.length=true:=by exact rfl):ES (fun r=> .thn (VR N k c (q r) n) (q' r)) .normal s (again j):=ES.go ih j (LSB hs hh hn hl)
end
abbrev cI (n:Int):WV:=.c (.v (.int .i64 n))
abbrev FC:=FCalls Tryz.prog
abbrev aU (n:Int):AV:=.v (.int .u64 n)
abbrev aI (n:Int):AV:=.v (.int .i64 n)
abbrev wI (n:Int):SV:=.w (.c (.v (.int .i64 n)))
abbrev wP (b:Nat):SV:=.w (.c (.ptr b 0 0))
abbrev wM (b:Nat):SV:=.w (.c (.mref b))
abbrev aT {α:Type} (g:α→List TV) (l:List α):AV:=.v (.tree (l.map g))
abbrev wT {α:Type} (g:α→List TV) (l:List α):SV:=.w (.c (.v (.tree (l.map g))))
set_option maxRecDepth 20000
open Go.RowKit Q
section
variable {P:Program} {o:Oper} {ev:Operand→SV}
theorem OStep.xorU {x:Operand} {T:TypeId} {n:Int} (ho:o.op=.unOp .xor T x) (hx:ev x=iS .u64 n):OStep P o ev ⟨[],[],[],iS .u64 (Go.bits .xor .u64 18446744073709551615 n)⟩:=
 .pure fun C w η F sl hp N a hR hev _=>by
  have e:=hR.int ((hev x (by simp [ho,Op.operands])).trans hx)
  refine ⟨.int .u64 (Go.bits .xor .u64 18446744073709551615 n),?_,.int _ _⟩
  unfold execOp;rw [ho]
  have e2:(if IntKind.u64.signed=true then-1 else IntKind.u64.max)=(18446744073709551615:Int):=by decide
  have e3:(Op.unary .xor (.int .u64 n)).run P w=.ok (.int .u64 (Go.bits .xor .u64 18446744073709551615 n)) w:=by simp [Op.unary,e2,go_sem]
  simp [e,e3]
theorem OStep.convW {T T':TypeId} {x:Operand} {k k':IntKind} {m:Int} (ho:o.op=.convert T T' x) (hx:ev x=iS k m) (hu:P.underlying T=some (.int k)) (hu':P.underlying T'=some (.int k')):OStep P o ev ⟨[],[],[],iS k' (k'.wrap m)⟩:=
 .pure fun C w η F sl hp N a hR hev _=>by
  have e:=hR.int ((hev x (by simp [ho,Op.operands])).trans hx)
  refine ⟨.int k' (k'.wrap m),?_,.int _ _⟩
  unfold execOp;rw [ho]
  simp [e,convert,run_underlying hu,run_underlying hu',Conv.intToInt]
end
section
variable {N k:Nat} {β:Type} {q:β→Po} {s:St} {m m1 m2:M β} {all r:List Oper} {τ:List (Option Eff)} {d:Option Tmp} {ty:TypeId} {pos:String} {aft:Array Edge} {x y z:Operand} {T T' e:TypeId} {kd:IntKind} {yT ye:Ty}
theorem X.xorU {i:Int} (h:TS N k all q r (s.put d (iS .u64 (Go.bits .xor .u64 18446744073709551615 i))) (some ⟨[],[],[],iS .u64 (Go.bits .xor .u64 18446744073709551615 i)⟩::τ) m) (hx:s.ev x=iS .u64 i:=by exact rfl) (hd:dstB N d=true:=by exact rfl):TS N k all q (⟨d,.unOp .xor T x,ty,pos,aft,none⟩::r) s τ m:=by
 refine X.op (OStep.xorU (P:=Tryz.prog) (o:=⟨d,.unOp .xor T x,ty,pos,aft,none⟩) rfl hx) trivial rfl hd ?_
 exact h
theorem X.convW {i:Int} {kd':IntKind} (h:TS N k all q r (s.put d (iS kd' (kd'.wrap i))) (some ⟨[],[],[],iS kd' (kd'.wrap i)⟩::τ) m) (hx:s.ev x=iS kd i:=by exact rfl) (hT:(tys.get T).map (·.shp)=some (.int kd):=by exact rfl) (hT':(tys.get T').map (·.shp)=some (.int kd'):=by exact rfl) (hd:dstB N d=true:=by exact rfl):TS N k all q (⟨d,.convert T T' x,ty,pos,aft,none⟩::r) s τ m:=by
 rw [Option.map_eq_some_iff] at hT hT'
 obtain ⟨y1,h1,h2⟩:=hT
 obtain ⟨y2,h3,h4⟩:=hT'
 refine X.op (OStep.convW (P:=Tryz.prog) (o:=⟨d,.convert T T' x,ty,pos,aft,none⟩) rfl hx ((fits h1).int h2) ((fits h3).int h4)) trivial rfl hd ?_
 exact h
theorem X.shlW {i j:Int} {kd':IntKind} (h:0≤j∧j≤64→TS N k all q r (s.put d (iS .u64 (IntKind.u64.wrap (i*2 ^ j.toNat)))) (some ⟨[],[],[],iS .u64 (IntKind.u64.wrap (i*2 ^ j.toNat))⟩::τ) m) (hx:s.ev x=iS .u64 i:=by exact rfl) (hy:s.ev y=iS kd' j:=by exact rfl) (hd:dstB N d=true:=by exact rfl):TS N k all q (⟨d,.binOp .shl T x y T',ty,pos,aft,none⟩::r) s τ (M.chk (0≤j∧j≤64) m):=by
 refine X.chk fun hj=>X.op (OStep.int2 (P:=Tryz.prog) (o:=⟨d,.binOp .shl T x y T',ty,pos,aft,none⟩) rfl hx hy (v:=.int .u64 (IntKind.u64.wrap (i*2 ^ j.toNat))) (fun w=>?_) (fun _ _=> .int _ _)) trivial rfl hd ?_
 ·have e:Min.min j.toNat 64=j.toNat:=by omega
  have e2:¬j<0:=by omega
  simp [binOp, *]
 ·exact h hj
theorem all8 {p:Nat→Prop} (h0:p 0) (h1:p 1) (h2:p 2) (h3:p 3) (h4:p 4) (h5:p 5) (h6:p 6) (h7:p 7):∀n,n<8→p n:=by
 intro n hn
 match n,hn with
 | 0,_=>exact h0
 | 1,_=>exact h1
 | 2,_=>exact h2
 | 3,_=>exact h3
 | 4,_=>exact h4
 | 5,_=>exact h5
 | 6,_=>exact h6
 | 7,_=>exact h7
 | n+8,h=>omega
theorem X.idxAS {i:Int} {b i0 off:Nat} {eb et:TypeId} {cells:List AV} (h:0≤i∧i<8→TS N k all q r (s.put d (.w (.c (.ptr b i0 (off+i.toNat*ye.size))))) (some ⟨[(b,.bx eb cells)],[],[],.w (.c (.ptr b i0 (off+i.toNat*ye.size)))⟩::τ) m) (hx:s.ev x=.w (.c (.ptr b i0 off)):=by exact rfl) (hb:lookH s.heap b=some (.bx eb cells):=by exact rfl) (hz:s.ev z=iS kd i:=by exact rfl) (hT:tys.get T=some yT:=by exact rfl) (hs:yT.shp=.array 8 et:=by exact rfl) (he:tys.get et=some ye:=by exact rfl) (hd:dstB N d=true:=by exact rfl):TS N k all q (⟨d,.indexAddr T x z,ty,pos,aft,none⟩::r) s τ (M.chk (0≤i∧i<8) m):=
 X.chk fun hi=>X.up (h hi) fun _ hK=>G.idxA hx (by rw [hz,Int.toNat_of_nonneg hi.1]) hb hT hs he (by omega) hd hK
theorem X.ldAS (vv:Int→WV) (off sz fo:Nat) {i:Int} (hi:0≤i∧i<8) {b i0:Nat} {eb:TypeId} {cells:List AV} (h:TS N k all q r (s.put d (.w (vv i))) (some ⟨[(b,.bx eb cells)],[],[],.w (vv i)⟩::τ) m) (hx:s.ev x=.w (.c (.ptr b i0 (off+i.toNat*sz+fo))):=by exact rfl) (hb:lookH s.heap b=some (.bx eb cells):=by exact rfl) (hT:tys.get T=some yT:=by exact rfl) (hd:dstB N d=true:=by exact rfl) (hr:∀n:Nat,n<8→cut yT cells (off+n*sz+fo)=some (vv (n:Int)):=by exact all8 rfl rfl rfl rfl rfl rfl rfl rfl):TS N k all q (⟨d,.load T x,ty,pos,aft,none⟩::r) s τ m:=by
 have h2:=hr i.toNat (by omega)
 rw [Int.toNat_of_nonneg hi.1] at h2
 exact X.up h fun _ hK=>G.loadBx hx hb hT h2 hd hK
theorem X.stAS (cn:Int→List AV) (off sz fo:Nat) {i:Int} (hi:0≤i∧i<8) {b i0:Nat} {eb:TypeId} {cells:List AV} {v:WV} (h:TS N k all q r (s.eff d ⟨[(b,.bx eb cells)],[],[(b,some (.bx eb (cn i)))],SV.any⟩) (some ⟨[(b,.bx eb cells)],[],[(b,some (.bx eb (cn i)))],SV.any⟩::τ) m) (hx:s.ev x=.w (.c (.ptr b i0 (off+i.toNat*sz+fo))):=by exact rfl) (hb:lookH s.heap b=some (.bx eb cells):=by exact rfl) (hz:s.ev z=.w v:=by exact rfl) (hT:tys.get T=some yT:=by exact rfl) (hok:v.ok=true:=by exact rfl) (hl:v.cells.length=yT.size:=by exact rfl) (hle:∀n:Nat,n<8→Nat.ble (off+n*sz+fo+yT.size) cells.length=true:=by exact all8 rfl rfl rfl rfl rfl rfl rfl rfl) (hd:dstB N d=true:=by exact rfl) (hp:∀n:Nat,n<8→putAt cells (off+n*sz+fo) v.cells=cn (n:Int):=by exact all8 rfl rfl rfl rfl rfl rfl rfl rfl):TS N k all q (⟨d,.store T x z,ty,pos,aft,none⟩::r) s τ m:=by
 have h2:=hp i.toNat (by omega)
 have h3:=hle i.toNat (by omega)
 rw [Int.toNat_of_nonneg hi.1] at h2
 rw [←h2] at h
 exact X.up h fun _ hK=>G.storeBx hx hb hz hT hok hl h3 hd hK
theorem X.callOM (Nw:List Nat) (S:List (Nat × Blk)) {γ:Type} {m1:M γ} {kk:γ→M β} {E:γ→List Blk} {f:FuncId} {args:List Operand} {Ts:Array TypeId} {aa0 aa:List WV} {rv:γ→SV} (hf:∀a,m1 a→FCalls Tryz.prog f [] aa (rv a) (E a) []) (h:∀a,TS N k all q r (s.eff d ⟨lendNeed S [] [],Nw,callUpd true S [] [] Nw (E a),(rv a).ren (callRen [] Nw)⟩) (some ⟨lendNeed S [] [],Nw,callUpd true S [] [] Nw (E a),(rv a).ren (callRen [] Nw)⟩::τ) (kk a)) (hE:∀a,(E a).all (fun b=>b.isSl&&b.live)=true:=by exact fun _=>rfl) (hNl:∀a,Nw.length=(E a).length:=by exact fun _=>rfl) (ha:argsW S [] s.ev args=some aa0:=by exact rfl) (haa:aa0.map tzW=aa:=by exact rfl) (hn:s.needOk (lendNeed S [] []):=by first| exact trivial| exact ⟨rfl,trivial⟩| exact ⟨rfl,rfl,trivial⟩| exact ⟨rfl,rfl,rfl,trivial⟩) (hS:S.all (fun p=>p.2.isSl)=true:=by exact rfl) (hnd:nodupB ([]++Nw++S.map (·.1))=true:=by exact rfl) (hr:∀a,(rv a).below (0+(E a).length)=true:=by exact fun _=>rfl) (hw:Nw.all (fun b=>s.freshB k b)=true:=by exact rfl) (hd:dstB N d=true:=by exact rfl):TS N k all q (⟨d,.call {callee:=.value (.func f),args:=args.toArray,argTypes:=Ts},ty,pos,aft,none⟩::r) s τ (M.call m1 kk):=by
 refine ⟨fun v hv=>?_⟩
 obtain ⟨a,h1,h2⟩:=M.call_iff.1 hv
 subst haa
 refine G.call true S [] Nw (FCalls.tz (hf a h1)) ha rfl hS (nodupB_ok hnd) (hNl a) (fun kb hkb=>?_) (hr a) (by simp) hn (by simpa using hw) hd ((h a).out v h2)
 have h3:=List.all_eq_true.1 (hE a) kb hkb
 cases kb with
 | sl e sz f rows=>cases f with
   | false=>exact exp_sl _ _ _
   | true=>exact absurd h3 (by simp [Blk.live])
 | bx e cs=>exact absurd h3 (by simp [Blk.isSl])
 | gh Φ=>exact absurd h3 (by simp [Blk.isSl])
theorem Ret.cloOM {rs:List ResultVar} {rv:SV} {B':List (TypeId × List TV)} (bs:List Nat) (l:List WV) {E:List Blk} (h:ResOk Tryz.prog s rs l) (hB:HeapIs s 0 B') (hE:ExpIs s bs E:=by exact ⟨rfl,rfl,rfl,rfl,trivial⟩) (hkb:bs.all (fun b=>Nat.ble k b)=true:=by exact rfl) (hnd:nodupB bs=true:=by exact rfl) (hr:resSV l=rv.ren (expRen k bs):=by exact rfl) (hbl:rv.below (k+E.length)=true:=by exact rfl):Ret N k rs rv E B' s:=by
 refine ⟨s,.refl s,l,bs,h,hr,hE,?_,hB,hbl⟩
 refine List.nodup_append.2 ⟨List.nodup_range,nodupB_ok hnd,?_⟩
 intro a ha c hc
 have h1:=List.mem_range.1 ha
 have h2:=Nat.le_of_ble_eq_true (List.all_eq_true.1 hkb c hc)
 omega
end
open Go.RowKit Q
section
variable {N k:Nat} {β:Type} {q:β→Po} {s:St} {m m1 m2:M β} {all r:List Oper} {τ:List (Option Eff)} {d:Option Tmp} {ty:TypeId} {pos:String} {aft:Array Edge} {x y z:Operand} {T T' e:TypeId} {kd:IntKind} {yT ye:Ty}
theorem X.stN (cells':List AV) {b i off:Nat} {eb:TypeId} {cells:List AV} {v:WV} (h:TS N k all q r (s.eff d ⟨[(b,.bx eb cells)],[],[(b,some (.bx eb cells'))],SV.any⟩) (some ⟨[(b,.bx eb cells)],[],[(b,some (.bx eb cells'))],SV.any⟩::τ) m) (hx:s.ev x=.w (.c (.ptr b i off)):=by exact rfl) (hb:lookH s.heap b=some (.bx eb cells):=by exact rfl) (hz:s.ev z=.w v:=by exact rfl) (hT:tys.get T=some yT:=by exact rfl) (hok:v.ok=true:=by exact rfl) (hl:v.cells.length=yT.size:=by exact rfl) (hle:Nat.ble (off+yT.size) cells.length=true:=by exact rfl) (hd:dstB N d=true:=by exact rfl) (hc:(putAt cells off v.cells).map tzA=cells':=by exact rfl):TS N k all q (⟨d,.store T x z,ty,pos,aft,none⟩::r) s τ m:=by
 subst hc
 exact X.st h hx hb hz hT hok hl hle hd
end
set_option maxRecDepth 20000
open Go.RowKit Q
section
variable {P:Program} {C:Ctx} {w:World} {η:Nat→Value} {F:Nat→Prop} {sl:Sl} {hp:Hp} {N:Nat} {a:Act} {o:Oper} {ev:Operand→SV} {t:TypeId} {y:Ty}
end
section
variable {N k:Nat} {β γ:Type} {q:β→Po} {s:St} {all r:List Oper} {τ:List (Option Eff)} {m m1 m2:M β} {d:Option Tmp} {ty:TypeId} {pos:String} {aft:Array Edge} {x y z:Operand} {T T' e:TypeId} {kd:IntKind} {yT ye:Ty}
end
open Go.RowKit Q
section
variable {P:Program} {C:Ctx} {w w':World} {η:Nat→Value} {F:Nat→Prop} {sl:Sl} {hp:Hp} {N:Nat} {a:Act} {o:Oper} {ev:Operand→SV}
end
section
variable {N k:Nat} {β:Type} {q:β→Po} {all r:List Oper} {s:St} {τ:List (Option Eff)} {d:Option Tmp} {ty:TypeId} {pos:String} {aft:Array Edge} {m:M β}
end
end Go.Proofs.YtgbkhjllbgmdcaaGreat
