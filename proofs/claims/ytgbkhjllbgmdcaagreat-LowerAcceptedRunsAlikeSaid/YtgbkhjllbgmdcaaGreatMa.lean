/- A machine on values: abstract values, abstract blocks, and what it means that a world holds them. No program in sight. -/
import Derived.Lib.TrailingZeros
import Derived.WalkKit
import Derived.WalkSpells
import Derived.Deep.Fields
namespace Go.Proofs.YtgbkhjllbgmdcaaGreat
open Go.RowKit
inductive TV where
 | int (k:IntKind) (n:Int)
 | bool (b:Bool)
 | nil
 | tree (rows:List (List TV))
 | nilf
 | nilm
 | mp (l:List (Value × Value))
 | lk (j:Nat)
inductive Cap where
 | p (b:Nat)
 | v (t:TV)
inductive AV where
 | v (t:TV)
 | mref (b:Nat)
 | ptr (b i o:Nat)
 | tptr (row:List TV) (o:Nat)
 | one
 | any
 | clo (f:FuncId) (l:List Cap)
 | view (b lo hi:Nat)
inductive WV where
 | c (a:AV)
 | agg (l:List AV)
inductive SV where
 | w (x:WV)
 | tup (l:List WV)
inductive Blk where
 | sl (e:TypeId) (sz:Nat) (frz:Bool) (rows:List (List TV))
 | bx (e:TypeId) (cells:List AV)
 | gh (Φ:World→Value→Prop)
def Blk.live:Blk→Bool
 | .sl _ _ f _=>!f
 | .bx .. =>true
 | .gh _=>true
def Blk.isGh:Blk→Bool
 | .gh _=>true
 | _=>false
abbrev Own:Value→Nat→Prop
 | .tuple vs,g=>∃v∈vs,v.ownBlock=some g
 | .map r,g=>r=some g
 | v,g=>v.ownBlock=some g
def hdV:Value→Value
 | .tuple vs=>vs.getD 0 undef
 | v=>v
def esFrom:List (Value × Value)→Nat→List MapEntry
 | [],_=>[]
 | p::r,j=>⟨p.1,p.2,j⟩::esFrom r (j+1)
def mkEs (l:List (Value × Value)):Array MapEntry:=(esFrom l 0).toArray
inductive Tr (w:World) (F:Nat→Prop):TV→Value→Prop
 | int (k:IntKind) (n:Int):Tr w F (.int k n) (.int k n)
 | bool (b:Bool):Tr w F (.bool b) (.bool b)
 | nil:Tr w F .nil (.slice none 0 0)
 | empty (a:Option Addr) (c:Nat) (hm:c≤maxLen):Tr w F (.tree []) (.slice a 0 c)
 | tree (rows:List (List TV)) (g o sz c:Nat) (cv:Nat→Nat→Value) (hc:rows.length≤c) (hm:c≤maxLen) (hsz:∀row∈rows,row.length=sz) (hF:F g)
  (hcell:∀(i j:Nat) (row:List TV) (x:TV),rows[i]?=some row→row[j]?=some x→w.cell? ⟨g,o+(i*sz+j),none⟩=some (cv i j))
  (htr:∀(i j:Nat) (row:List TV) (x:TV),rows[i]?=some row→row[j]?=some x→Tr w F x (cv i j)):
  Tr w F (.tree rows) (.slice (some ⟨g,o,none⟩) rows.length c)
 | nilf:Tr w F .nilf .nilFunc
 | nilm:Tr w F .nilm (.map none)
 | mp (l:List (Value × Value)) (r:Nat) (hF:F r) (hh:w.heap[r]?=some (.map (mkEs l) l.length)):Tr w F (.mp l) (.map (some r))
abbrev Hp:=Nat→Option Blk
abbrev Sl:=Nat→SV
section
variable (w:World) (F:Nat→Prop) (η:Nat→Value) (hp:Hp)
def CapRep:Cap→Value→Prop
 | .v t,x=>Tr w F t x
 | .p b,x=>match hp b with
   | some (.bx ..)=>∃g,η b=.slice (some ⟨g,0,none⟩) 1 1∧x=.pointer (some ⟨g,0,none⟩)
   | some (.sl ..)=>False
   | some (.gh _)=>False
   | none=>x.oneCell'=true
def CRep:AV→Value→Prop
 | .v t,u=>Tr w F t u
 | .mref b,u=>match hp b with
   | some (.sl ..)=>u=η b
   | some (.gh _)=>u=hdV (η b)
   | _=>u.oneCell'=true
 | .ptr b i o,u=>match hp b with
   | some (.sl _ sz _ _)=>∃g n c,η b=.slice (some ⟨g,0,none⟩) n c∧u=.pointer (some ⟨g,i*sz+o,none⟩)
   | some (.bx ..)=>∃g,η b=.slice (some ⟨g,0,none⟩) 1 1∧u=.pointer (some ⟨g,o,none⟩)
   | some (.gh _)=>∃g q n c,hdV (η b)=.slice (some ⟨g,q,none⟩) n c∧u=.pointer (some ⟨g,q+(i+o),none⟩)
   | none=>u.oneCell'=true
 | .view b lo hi,u=>match hp b with
   | some (.sl _ sz _ _)=>∃g n c,η b=.slice (some ⟨g,0,none⟩) n c∧u=.slice (some ⟨g,lo*sz,none⟩) (hi- lo) (c- lo)
   | some (.bx ..)=>False
   | some (.gh _)=>False
   | none=>u.oneCell'=true
 | .tptr row o,u=>∃(g p:Nat) (cv:Nat→Value),F g∧u=.pointer (some ⟨g,p+o,none⟩)∧∀(j:Nat) (x:TV),row[j]?=some x→w.cell? ⟨g,p+j,none⟩=some (cv j)∧Tr w F x (cv j)
 | .one,u=>u.oneCell'=true
 | .any,_=>True
 | .clo f l,u=>∃us:List Value,u=.func (.func f) #[] us.toArray∧us.length=l.length∧∀(i:Nat) (c:Cap) (x:Value),l[i]?=some c→us[i]?=some x→CapRep w F η hp c x
def CsRep (l:List AV) (us:List Value):Prop:=
 us.length=l.length∧(∀y∈us,y.oneCell'=true)∧∀(i:Nat) (x:AV) (y:Value),l[i]?=some x→us[i]?=some y→CRep w F η hp x y
def WRep:WV→Value→Prop
 | .c a,u=>CRep w F η hp a u
 | .agg l,u=>∃us:List Value,u=.agg us.toArray∧CsRep w F η hp l us
def SRep:SV→Value→Prop
 | .w x,u=>WRep w F η hp x u
 | .tup l,u=>∃us:List Value,u=.tuple us.toArray∧us.length=l.length∧∀(i:Nat) (x:WV) (y:Value),l[i]?=some x→us[i]?=some y→WRep w F η hp x y
def BRep (b:Nat):Blk→Prop
 | .sl e sz _ rows=>∃cells:List Value,w.ownsRow 0 e sz (η b) rows.length cells∧(∀row∈rows,row.length=sz)∧
  ∀(i j:Nat) (row:List TV) (x:TV),rows[i]?=some row→row[j]?=some x→∃u,cells[i*sz+j]?=some u∧Tr w F x u
 | .bx e cells=>∃g,∃cs:List Value,η b=.slice (some ⟨g,0,none⟩) 1 1∧w.heap[g]?=some (.cells cs.toArray e (0,0))∧CsRep w F η hp cells cs
 | .gh Φ=>(hdV (η b)).oneCell'=true∧(∀g,Own (η b) g→g<w.heap.size)∧Φ w (η b)∧∀w':World,(∀g,Own (η b) g→w'.heap[g]?=w.heap[g]?)→Φ w' (η b)
end
structure Ctx where
 W:World
 bs:List Value
 F0:Nat→Prop
def Ctx.lent (C:Ctx) (g:Nat):Prop:=∃v∈C.bs,v.ownBlock=some g
structure Kept (C:Ctx) (w:World):Prop where
 os:w.os=C.W.os
 tape:w.tape=C.W.tape
 output:w.output=C.W.output
 size:C.W.heap.size≤w.heap.size
 block:∀k,k<C.W.heap.size→¬C.lent k→w.heap[k]?=C.W.heap[k]?
def TabW (w:World):Prop:=∀j,j<64→w.cell? ⟨0,j,none⟩=some (.int .u8 ((Lib.deBruijn64tab.getD j 0:Nat):Int))
def Amb (C:Ctx):Prop:=false=true→TabW C.W∧∀g,C.lent g→g≠0
theorem TabW.pos {w:World} (h:TabW w):0<w.heap.size:=World.block_lt_of_cell? _ _ (h 0 (by omega))
theorem TabW.keep {w w':World} (h:TabW w) (hb:w'.heap[0]?=w.heap[0]?):TabW w':=fun j hj=>by rw [World.cell?_of_block (w:=w) (w':=w') (a:=⟨0,j,none⟩) hb];exact h j hj
structure HRep (C:Ctx) (w:World) (η:Nat→Value) (F:Nat→Prop) (hp:Hp):Prop where
 blocks:∀b k,hp b=some k→BRep w F η hp b k
 sep:∀b b' k k' g,hp b=some k→hp b'=some k'→b≠b'→k.live=true→k'.live=true→Own (η b) g→¬Own (η b') g
 liveF:∀b k g,hp b=some k→k.live=true→Own (η b) g→¬F g
 frzF:∀b k g,hp b=some k→k.live=false→Own (η b) g→F g
 Flt:∀g,F g→g<w.heap.size
 fresh:∀b k g,hp b=some k→k.live=true→Own (η b) g→(C.W.heap.size≤g∧C.bs.length≤b)∨C.lent g
 bor:∀(j:Nat) (v:Value) (k:Blk),C.bs[j]?=some v→hp j=some k→η j=v∧k.isGh=false
 keep:Kept C w
 Fbd:∀g,F g→C.F0 g∨C.W.heap.size≤g∨C.lent g
 amb:Amb C
structure Reps (C:Ctx) (w:World) (η:Nat→Value) (F:Nat→Prop) (sl:Sl) (hp:Hp) (N:Nat) (a:Act):Prop where
 size:a.tmps.size=N
 defers:a.defers=[]
 slots:∀t,SRep w F η hp (sl t) (a.tmps.getD t undef)
 heap:HRep C w η F hp
theorem cell_keep {w w':World} {g:Nat} (h:w'.heap[g]?=w.heap[g]?) (o:Nat) (v:Value) (hc:w.cell? ⟨g,o,none⟩=some v):w'.cell? ⟨g,o,none⟩=some v:=by
 rw [World.cell?_of_block (w:=w) (w':=w') (a:=⟨g,o,none⟩) h];exact hc
theorem Tr.oneCell {w:World} {F:Nat→Prop} {t:TV} {u:Value} (h:Tr w F t u):u.oneCell'=true:=by
 cases h<;>rfl
theorem Tr.keep {w w':World} {F F':Nat→Prop} {t:TV} {u:Value} (h:Tr w F t u) (hF:∀g,F g→F' g) (hc:∀g,F g→w'.heap[g]?=w.heap[g]?):Tr w' F' t u:=by
 induction h with
 | int=>exact .int _ _
 | bool=>exact .bool _
 | nil=>exact .nil
 | empty a c hm=>exact .empty a c hm
 | tree rows g o sz c cv h1 h2 h3 h4 h5 h6 ih=>
   exact .tree rows g o sz c cv h1 h2 h3 (hF _ h4) (fun i j row x hi hj=>cell_keep (hc _ h4) _ _ (h5 i j row x hi hj)) (fun i j row x hi hj=>ih i j row x hi hj)
 | nilf=>exact .nilf
 | nilm=>exact .nilm
 | mp l r h1 h2=>exact .mp l r (hF _ h1) ((hc _ h1).trans h2)
def OneB (η:Nat→Value) (b:Nat) (k:Blk):Prop:=(∀e sz f rows,k=.sl e sz f rows→(η b).oneCell'=true)∧∀Φ,k=.gh Φ→(hdV (η b)).oneCell'=true
def Cap.ment (b:Nat):Cap→Bool
 | .p c=>c==b
 | .v _=>false
def AV.ment (b:Nat):AV→Bool
 | .mref c=>c==b
 | .ptr c _ _=>c==b
 | .view c _ _=>c==b
 | .clo _ l=>l.any (Cap.ment b)
 | _=>false
def WV.ment (b:Nat):WV→Bool
 | .c a=>a.ment b
 | .agg l=>l.any (AV.ment b)
def SV.ment (b:Nat):SV→Bool
 | .w x=>x.ment b
 | .tup l=>l.any (WV.ment b)
section
variable {w w':World} {F F':Nat→Prop} {η η':Nat→Value} {hp hp':Hp}
theorem CapRep.keep {a:Cap} {u:Value} (h:CapRep w F η hp a u) (hF:∀g,F g→F' g) (hc:∀g,F g→w'.heap[g]?=w.heap[g]?)
 (hl:∀b,a.ment b=true→hp' b=none∨(∃e sz f rows f' rows',hp b=some (.sl e sz f rows)∧hp' b=some (.sl e sz f' rows')∧η' b=η b)∨(∃e cs cs',hp b=some (.bx e cs)∧hp' b=some (.bx e cs')∧η' b=η b)∨(∃Φ Φ',hp b=some (.gh Φ)∧hp' b=some (.gh Φ')∧hdV (η' b)=hdV (η b))):CapRep w' F' η' hp' a u:=by
 cases a with
 | v t=>exact Tr.keep h hF hc
 | p b=>
   simp only [CapRep] at h ⊢
   rcases hl b (by simp [Cap.ment]) with h0| ⟨e,sz,f,rows,f',rows',h1,h2,h3⟩| ⟨e,cs,cs',h1,h2,h3⟩| ⟨Φ,Φ',h1,h2,h3⟩
   ·rw [h0]
    cases hb:hp b with
    | none=>rw [hb] at h;exact h
    | some k=>
      rw [hb] at h
      cases k with
      | sl e sz f rows=>exact h.elim
      | bx e cs=>obtain ⟨g,_,rfl⟩:=h;rfl
      | gh Φ=>exact h.elim
   ·rw [h1] at h;rw [h2];exact h
   ·rw [h1] at h;rw [h2];dsimp only at h ⊢;rw [h3];exact h
   ·rw [h1] at h;exact h.elim
theorem CRep.keep {a:AV} {u:Value} (h:CRep w F η hp a u) (hF:∀g,F g→F' g) (hc:∀g,F g→w'.heap[g]?=w.heap[g]?)
 (hη:∀b k,hp b=some k→OneB η b k)
 (hl:∀b,a.ment b=true→hp' b=none∨(∃e sz f rows f' rows',hp b=some (.sl e sz f rows)∧hp' b=some (.sl e sz f' rows')∧η' b=η b)∨(∃e cs cs',hp b=some (.bx e cs)∧hp' b=some (.bx e cs')∧η' b=η b)∨(∃Φ Φ',hp b=some (.gh Φ)∧hp' b=some (.gh Φ')∧hdV (η' b)=hdV (η b))):CRep w' F' η' hp' a u:=by
 cases a with
 | v t=>exact Tr.keep h hF hc
 | mref b=>
   simp only [CRep] at h ⊢
   rcases hl b (by simp [AV.ment]) with h0| ⟨e,sz,f,rows,f',rows',h1,h2,h3⟩| ⟨e,cs,cs',h1,h2,h3⟩| ⟨Φ,Φ',h1,h2,h3⟩
   ·rw [h0]
    cases hb:hp b with
    | none=>rw [hb] at h;exact h
    | some k=>
      rw [hb] at h
      cases k with
      | sl e sz f rows=>dsimp only at h ⊢;rw [h];exact (hη b _ hb).1 e sz f rows rfl
      | bx e cs=>exact h
      | gh Φ=>dsimp only at h ⊢;rw [h];exact (hη b _ hb).2 Φ rfl
   ·rw [h1] at h;rw [h2];dsimp only at h ⊢;rw [h,h3]
   ·rw [h1] at h;rw [h2];exact h
   ·rw [h1] at h;rw [h2];dsimp only at h ⊢;rw [h,h3]
 | ptr b i o=>
   simp only [CRep] at h ⊢
   rcases hl b (by simp [AV.ment]) with h0| ⟨e,sz,f,rows,f',rows',h1,h2,h3⟩| ⟨e,cs,cs',h1,h2,h3⟩| ⟨Φ,Φ',h1,h2,h3⟩
   ·rw [h0]
    cases hb:hp b with
    | none=>rw [hb] at h;exact h
    | some k=>
      rw [hb] at h
      cases k with
      | sl e sz f rows=>obtain ⟨g,n,c,_,rfl⟩:=h;rfl
      | bx e cs=>obtain ⟨g,_,rfl⟩:=h;rfl
      | gh Φ=>obtain ⟨g,q,n,c,_,rfl⟩:=h;rfl
   ·rw [h1] at h;rw [h2];dsimp only at h ⊢;rw [h3];exact h
   ·rw [h1] at h;rw [h2];dsimp only at h ⊢;rw [h3];exact h
   ·rw [h1] at h;rw [h2];dsimp only at h ⊢;rw [h3];exact h
 | view b i o=>
   simp only [CRep] at h ⊢
   rcases hl b (by simp [AV.ment]) with h0| ⟨e,sz,f,rows,f',rows',h1,h2,h3⟩| ⟨e,cs,cs',h1,h2,h3⟩| ⟨Φ,Φ',h1,h2,h3⟩
   ·rw [h0]
    cases hb:hp b with
    | none=>rw [hb] at h;exact h
    | some k=>
      rw [hb] at h
      cases k with
      | sl e sz f rows=>obtain ⟨g,n,c,_,rfl⟩:=h;rfl
      | bx e cs=>exact h.elim
      | gh Φ=>exact h.elim
   ·rw [h1] at h;rw [h2];dsimp only at h ⊢;rw [h3];exact h
   ·rw [h1] at h;exact h.elim
   ·rw [h1] at h;exact h.elim
 | tptr row o=>
   obtain ⟨g,p,cv,h1,h2,h3⟩:=h
   exact ⟨g,p,cv,hF _ h1,h2,fun j x hj=>⟨cell_keep (hc _ h1) _ _ (h3 j x hj).1,Tr.keep (h3 j x hj).2 hF hc⟩⟩
 | one=>exact h
 | any=>exact h
 | clo f l=>
   obtain ⟨us,h1,h2,h3⟩:=h
   exact ⟨us,h1,h2,fun i c x hc1 hx=>CapRep.keep (h3 i c x hc1 hx) hF hc fun b hb=>hl b (List.any_eq_true.2 ⟨c,List.mem_of_getElem? hc1,hb⟩)⟩
theorem CsRep.keep {l:List AV} {us:List Value} (h:CsRep w F η hp l us) (hF:∀g,F g→F' g) (hc:∀g,F g→w'.heap[g]?=w.heap[g]?)
 (hη:∀b k,hp b=some k→OneB η b k)
 (hl:∀b,l.any (AV.ment b)=true→hp' b=none∨(∃e sz f rows f' rows',hp b=some (.sl e sz f rows)∧hp' b=some (.sl e sz f' rows')∧η' b=η b)∨(∃e cs cs',hp b=some (.bx e cs)∧hp' b=some (.bx e cs')∧η' b=η b)∨(∃Φ Φ',hp b=some (.gh Φ)∧hp' b=some (.gh Φ')∧hdV (η' b)=hdV (η b))):CsRep w' F' η' hp' l us:=
 ⟨h.1,h.2.1,fun i x y hx hy=>CRep.keep (h.2.2 i x y hx hy) hF hc hη fun b hb=>hl b (List.any_eq_true.2 ⟨x,List.mem_of_getElem? hx,hb⟩)⟩
theorem WRep.keep {x:WV} {u:Value} (h:WRep w F η hp x u) (hF:∀g,F g→F' g) (hc:∀g,F g→w'.heap[g]?=w.heap[g]?)
 (hη:∀b k,hp b=some k→OneB η b k)
 (hl:∀b,x.ment b=true→hp' b=none∨(∃e sz f rows f' rows',hp b=some (.sl e sz f rows)∧hp' b=some (.sl e sz f' rows')∧η' b=η b)∨(∃e cs cs',hp b=some (.bx e cs)∧hp' b=some (.bx e cs')∧η' b=η b)∨(∃Φ Φ',hp b=some (.gh Φ)∧hp' b=some (.gh Φ')∧hdV (η' b)=hdV (η b))):WRep w' F' η' hp' x u:=by
 cases x with
 | c a=>exact CRep.keep h hF hc hη hl
 | agg l=>obtain ⟨us,h1,h2⟩:=h;exact ⟨us,h1,h2.keep hF hc hη hl⟩
theorem SRep.keep {x:SV} {u:Value} (h:SRep w F η hp x u) (hF:∀g,F g→F' g) (hc:∀g,F g→w'.heap[g]?=w.heap[g]?)
 (hη:∀b k,hp b=some k→OneB η b k)
 (hl:∀b,x.ment b=true→hp' b=none∨(∃e sz f rows f' rows',hp b=some (.sl e sz f rows)∧hp' b=some (.sl e sz f' rows')∧η' b=η b)∨(∃e cs cs',hp b=some (.bx e cs)∧hp' b=some (.bx e cs')∧η' b=η b)∨(∃Φ Φ',hp b=some (.gh Φ)∧hp' b=some (.gh Φ')∧hdV (η' b)=hdV (η b))):SRep w' F' η' hp' x u:=by
 cases x with
 | w x=>exact WRep.keep h hF hc hη hl
 | tup l=>
   obtain ⟨us,h1,h2,h3⟩:=h
   exact ⟨us,h1,h2,fun i x y hx hy=>WRep.keep (h3 i x y hx hy) hF hc hη fun b hb=>hl b (List.any_eq_true.2 ⟨x,List.mem_of_getElem? hx,hb⟩)⟩
theorem HRep.oneη {C:Ctx} (h:HRep C w η F hp):∀b k,hp b=some k→OneB η b k:=by
 intro b k hb
 refine ⟨?_,?_⟩
 ·rintro e sz f rows rfl
  obtain ⟨cells,h1,_⟩:=h.blocks b _ hb
  rcases h1.2 with ⟨h2,_⟩| ⟨g,cap,cur,h2,_⟩<;>rw [h2]<;>rfl
 ·rintro Φ rfl
  exact (h.blocks b _ hb).1
end
def Sl.put (sl:Sl) (d:Option Tmp) (r:SV):Sl:=fun t=>if d=some t then r else sl t
def SV.any:SV:=.w (.c .any)
theorem SRep.any (w:World) (F:Nat→Prop) (η:Nat→Value) (hp:Hp) (u:Value):SRep w F η hp SV.any u:=trivial
section
variable {C:Ctx} {w:World} {η:Nat→Value} {F:Nat→Prop} {sl:Sl} {hp:Hp} {N:Nat} {a:Act}
theorem Reps.put (h:Reps C w η F sl hp N a) {d:Option Tmp} {r:SV} {u:Value} (hr:SRep w F η hp r u) (hd:∀t,d=some t→t<N):Reps C w η F (sl.put d r) hp N (a.put d u):=by
 cases d with
 | none=>
   refine ⟨h.size,h.defers,fun t=>?_,h.heap⟩
   simp only [Sl.put,reduceCtorEq,↓reduceIte,Act.put]
   exact h.slots t
 | some d=>
   refine ⟨by simp [Act.put,h.size],h.defers,fun t=>?_,h.heap⟩
   simp only [Sl.put,Option.some.injEq,Act.put]
   have hlt:d<a.tmps.size:=by rw [h.size];exact hd d rfl
   by_cases hdt:d=t
   ·subst hdt
    rw [if_pos rfl,Array.getD_eq_getD_getElem?,Array.getElem?_setIfInBounds,if_pos rfl,if_pos hlt]
    exact hr
   ·rw [if_neg hdt,Array.getD_eq_getD_getElem?,Array.getElem?_setIfInBounds,if_neg hdt,←Array.getD_eq_getD_getElem?]
    exact h.slots t
def evalS (sl:Sl):Operand→SV
 | .tmp t=>sl t
 | .const (.int k n)=> .w (.c (.v (.int k n)))
 | .const (.bool b)=> .w (.c (.v (.bool b)))
 | .const (.slice none 0 0)=> .w (.c (.v .nil))
 | .const _=>SV.any
 | .global _=>SV.any
 | .func f=> .w (.c (.clo f []))
theorem Reps.eval (h:Reps C w η F sl hp N a) (x:Operand):SRep w F η hp (evalS sl x) (a.eval x):=by
 unfold evalS
 split
 ·exact h.slots _
 ·exact Tr.int _ _
 ·exact Tr.bool _
 ·exact Tr.nil
 ·exact SRep.any _ _ _ _ _
 ·exact SRep.any _ _ _ _ _
 ·exact ⟨[],rfl,rfl,by simp⟩
end
def hpSet (hp:Hp) (b:Nat) (x:Option Blk):Hp:=fun c=>if c=b then x else hp c
def hpUpd (hp:Hp):List (Nat × Option Blk)→Hp
 | []=>hp
 | (b,x)::r=>hpUpd (hpSet hp b x) r
end Go.Proofs.YtgbkhjllbgmdcaaGreat
namespace Go.Proofs.YtgbkhjllbgmdcaaGreat
open Go.RowKit
abbrev Stays (η η':Nat→Value) (hp hp':Hp) (b:Nat):Prop:=
 hp' b=none∨(∃e sz f rows f' rows',hp b=some (.sl e sz f rows)∧hp' b=some (.sl e sz f' rows')∧η' b=η b)∨(∃e cs cs',hp b=some (.bx e cs)∧hp' b=some (.bx e cs')∧η' b=η b)∨(∃Φ Φ',hp b=some (.gh Φ)∧hp' b=some (.gh Φ')∧hdV (η' b)=hdV (η b))
theorem Stays.of_same {η η':Nat→Value} {hp hp':Hp} {b:Nat} (h1:hp' b=hp b) (h2:η' b=η b):Stays η η' hp hp' b:=by
 cases h:hp b with
 | none=>exact .inl (by rw [h1,h])
 | some k=>
   cases k with
   | sl e sz f rows=>exact .inr (.inl ⟨e,sz,f,rows,f,rows,by first| rfl| exact h,by rw [h1,h],h2⟩)
   | bx e cs=>exact .inr (.inr (.inl ⟨e,cs,cs,by first| rfl| exact h,by rw [h1,h],h2⟩))
   | gh Φ=>exact .inr (.inr (.inr ⟨Φ,Φ,by first| rfl| exact h,by rw [h1,h],by rw [h2]⟩))
def UnmentB (hp:Hp) (c:Nat):Prop:=∀b e cells,hp b=some (.bx e cells)→cells.any (AV.ment c)=false
def UnmentS (sl:Sl) (c:Nat):Prop:=∀t,(sl t).ment c=false
section
variable {C:Ctx} {w w':World} {η η':Nat→Value} {F F':Nat→Prop} {hp hp':Hp}
theorem BRep.keep {b:Nat} {k:Blk} (h:BRep w F η hp b k) (hη:η' b=η b) (hg:∀g,Own (η b) g→w'.heap[g]?=w.heap[g]?) (hs:w.heap.size≤w'.heap.size) (hF:∀g,F g→F' g) (hFc:∀g,F g→w'.heap[g]?=w.heap[g]?)
 (ho:∀b k,hp b=some k→OneB η b k)
 (hm:∀e cells,k=.bx e cells→∀c,cells.any (AV.ment c)=true→Stays η η' hp hp' c):BRep w' F' η' hp' b k:=by
 cases k with
 | sl e sz f rows=>
   obtain ⟨cells,h1,h2,h3⟩:=h
   refine ⟨cells,?_,h2,fun i j row x hi hj=>?_⟩
   ·rw [hη]
    refine ⟨h1.1,?_⟩
    rcases h1.2 with ⟨e1,e2⟩| ⟨g,cap,cur,e1,e2,e3,e4⟩
    ·exact .inl ⟨e1,e2⟩
    ·exact .inr ⟨g,cap,cur,e1,e2,by rw [hg g (by rw [e1];exact rfl)];exact e3,e4⟩
   ·obtain ⟨u,e1,e2⟩:=h3 i j row x hi hj
    exact ⟨u,e1,e2.keep hF fun g hg=>hFc g hg⟩
 | bx e cells=>
   obtain ⟨g,cs,h1,h2,h3⟩:=h
   exact ⟨g,cs,by rw [hη];exact h1,by rw [hg g (by rw [h1];exact rfl)];exact h2,h3.keep hF (fun g hg=>hFc g hg) ho (hm e cells rfl)⟩
 | gh Φ=>
   obtain ⟨h0,h1,h2,h3⟩:=h
   refine ⟨by rw [hη];exact h0,fun g h=>?_,by rw [hη];exact h3 w' hg,fun w2 h=>?_⟩
   ·rw [hη] at h;exact Nat.lt_of_lt_of_le (h1 g h) hs
   ·rw [hη] at h ⊢;exact h3 w2 fun g hgo=>(h g hgo).trans (hg g hgo)
theorem HRep.step (h:HRep C w η F hp) (T:Nat→Prop) (hsame:∀b,¬T b→hp' b=hp b∧η' b=η b)
 (hblk:∀b k g,¬T b→hp b=some k→k.live=true→Own (η b) g→w'.heap[g]?=w.heap[g]?) (hs:w.heap.size≤w'.heap.size)
 (hF:∀g,F g→F' g) (hFc:∀g,F g→w'.heap[g]?=w.heap[g]?)
 (hst:∀c,UnmentB hp c∨Stays η η' hp hp' c)
 (hT:∀b k,T b→hp' b=some k→BRep w' F' η' hp' b k)
 (hsep:∀b b' k k' g,T b→hp' b=some k→hp' b'=some k'→b≠b'→k.live=true→k'.live=true→Own (η' b) g→¬Own (η' b') g)
 (hlF:∀b k g,hp' b=some k→k.live=true→Own (η' b) g→F' g→F g∨False)
 (hTF:∀b k g,T b→hp' b=some k→k.live=true→Own (η' b) g→¬F' g)
 (hfF:∀b k g,T b→hp' b=some k→k.live=false→Own (η' b) g→F' g)
 (hFlt:∀g,F' g→g<w'.heap.size)
 (hfresh:∀b k g,T b→hp' b=some k→k.live=true→Own (η' b) g→(C.W.heap.size≤g∧C.bs.length≤b)∨C.lent g)
 (hbor:∀(j:Nat) (v:Value) (k:Blk),T j→C.bs[j]?=some v→hp' j=some k→η' j=v∧k.isGh=false)
 (hkeep:Kept C w') (hFbd:∀g,F' g→C.F0 g∨C.W.heap.size≤g∨C.lent g):HRep C w' η' F' hp':=by
 classical
 have hnm:∀b e cells,¬T b→hp b=some (.bx e cells)→∀c,cells.any (AV.ment c)=true→Stays η η' hp hp' c:=by
  intro b e cells _ hb c hc
  rcases hst c with h1| h1
  ·rw [h1 b e cells hb] at hc;cases hc
  ·exact h1
 refine ⟨fun b k hb=>?_,fun b b' k k' g hb hb' hne hl hl' hg=>?_,fun b k g hb hl hg=>?_,fun b k g hb hl hg=>?_,hFlt,fun b k g hb hl hg=>?_,fun j v k hj hk=>?_,hkeep,hFbd,h.amb⟩
 ·by_cases hTb:T b
  ·exact hT b k hTb hb
  ·obtain ⟨h1,h2⟩:=hsame b hTb
   rw [h1] at hb
   refine (h.blocks b k hb).keep h2 (fun g hg=>?_) hs hF hFc h.oneη (fun e cells hk=>hnm b e cells hTb (by rw [hb,hk]))
   cases hl:k.live with
   | true=>exact hblk b k g hTb hb hl hg
   | false=>exact hFc g (h.frzF b k g hb hl hg)
 ·by_cases hTb:T b
  ·exact hsep b b' k k' g hTb hb hb' hne hl hl' hg
  ·by_cases hTb':T b'
   ·intro hg'
    exact hsep b' b k' k g hTb' hb' hb (Ne.symm hne) hl' hl hg' hg
   ·obtain ⟨h1,h2⟩:=hsame b hTb
    obtain ⟨h3,h4⟩:=hsame b' hTb'
    rw [h1] at hb;rw [h3] at hb';rw [h2] at hg;rw [h4]
    exact h.sep b b' k k' g hb hb' hne hl hl' hg
 ·by_cases hTb:T b
  ·exact hTF b k g hTb hb hl hg
  ·obtain ⟨h1,h2⟩:=hsame b hTb
   intro hF'
   have:=hlF b k g hb hl hg hF'
   rw [h1] at hb;rw [h2] at hg
   exact h.liveF b k g hb hl hg (this.resolve_right id)
 ·by_cases hTb:T b
  ·exact hfF b k g hTb hb hl hg
  ·obtain ⟨h1,h2⟩:=hsame b hTb
   rw [h1] at hb;rw [h2] at hg
   exact hF g (h.frzF b k g hb hl hg)
 ·by_cases hTb:T b
  ·exact hfresh b k g hTb hb hl hg
  ·obtain ⟨h1,h2⟩:=hsame b hTb
   rw [h1] at hb;rw [h2] at hg
   exact h.fresh b k g hb hl hg
 ·by_cases hTj:T j
  ·exact hbor j v k hTj hj hk
  ·obtain ⟨h1,h2⟩:=hsame j hTj
   rw [h1] at hk
   rw [h2]
   exact h.bor j v k hj hk
theorem HRep.slot {x:SV} {u:Value} (h:HRep C w η F hp) (hx:SRep w F η hp x u) (hF:∀g,F g→F' g) (hFc:∀g,F g→w'.heap[g]?=w.heap[g]?)
 (hst:∀c,x.ment c=false∨Stays η η' hp hp' c):SRep w' F' η' hp' x u:=
 hx.keep hF (fun g hg=>hFc g hg) h.oneη fun c hc=>(hst c).resolve_left (by rw [hc];simp)
theorem own_sl {w:World} {base:Nat} {e:TypeId} {sz:Nat} {v:Value} {n:Nat} {xs:List Value} {g:Nat} (h:w.ownsRow base e sz v n xs) (hg:Own v g):base≤g∧g<w.heap.size:=by
 rcases h.2 with ⟨rfl,_⟩| ⟨g',cap,cur,rfl,_⟩
 ·exact absurd hg (by simp [Own,Value.ownBlock])
 ·exact h.lt g hg
theorem own_block {w:World} {base:Nat} {e:TypeId} {sz:Nat} {v:Value} {n:Nat} {xs:List Value} {g:Nat} (h:w.ownsRow base e sz v n xs):Own v g↔v.ownBlock=some g:=by
 rcases h.2 with ⟨rfl,_⟩| ⟨g',cap,cur,rfl,_⟩<;>exact Iff.rfl
theorem HRep.lt (h:HRep C w η F hp) {b:Nat} {k:Blk} {g:Nat} (hk:hp b=some k) (hg:Own (η b) g):g<w.heap.size:=by
 have:=h.blocks b k hk
 cases k with
 | sl e sz f rows=>obtain ⟨cells,h1,_⟩:=this;exact (own_sl h1 hg).2
 | bx e cells=>
   obtain ⟨g',cs,h1,h2,_⟩:=this
   rw [h1] at hg
   simp only [Own,Value.ownBlock,Option.some.injEq] at hg
   subst hg
   exact (Array.getElem?_eq_some_iff.1 h2).1
 | gh Φ=>exact this.2.1 g hg
theorem own_of_block {v:Value} {g:Nat} (h:v.ownBlock=some g):Own v g:=by
 cases v<;>first| exact h| (simp [Value.ownBlock] at h)
def ηSet (η:Nat→Value) (b:Nat) (v:Value):Nat→Value:=fun c=>if c=b then v else η c
theorem ηSet_same (η:Nat→Value) (b:Nat) (v:Value):ηSet η b v b=v:=if_pos rfl
theorem ηSet_other {η:Nat→Value} {b c:Nat} {v:Value} (h:c≠b):ηSet η b v c=η c:=if_neg h
theorem hpSet_same (hp:Hp) (b:Nat) (x:Option Blk):hpSet hp b x b=x:=if_pos rfl
theorem hpSet_other {hp:Hp} {b c:Nat} {x:Option Blk} (h:c≠b):hpSet hp b x c=hp c:=if_neg h
theorem Kept.new {C:Ctx} {w w':World} (h:Kept C w) (hb:∀g,g<w.heap.size→w'.heap[g]?=w.heap[g]?) (hs:w.heap.size≤w'.heap.size) (ho:w'.os=w.os) (ht:w'.tape=w.tape) (hout:w'.output=w.output):Kept C w':=
 ⟨ho.trans h.os,ht.trans h.tape,hout.trans h.output,Nat.le_trans h.size hs,fun k hk hn=>(hb k (Nat.lt_of_lt_of_le hk h.size)).trans (h.block k hk hn)⟩
theorem HRep.new (h:HRep C w η F hp) {b:Nat} {k:Blk} {v:Value} (hb:∀g,g<w.heap.size→w'.heap[g]?=w.heap[g]?) (hs:w.heap.size≤w'.heap.size) (ho:w'.os=w.os) (ht:w'.tape=w.tape) (hout:w'.output=w.output)
 (hn:hp b=none) (hu:UnmentB hp b) (hbs:C.bs.length≤b) (hv:∀g,Own v g→w.heap.size≤g) (hl:k.live=true) (hk:BRep w' F (ηSet η b v) (hpSet hp b (some k)) b k):HRep C w' (ηSet η b v) F (hpSet hp b (some k)):=by
 refine h.step (fun c=>c=b) (fun c hc=>⟨hpSet_other hc,ηSet_other hc⟩) (fun c k g _ hk _ hg=>hb g (h.lt hk hg)) hs (fun _ h=>h) (fun g hg=>hb g (h.Flt g hg)) (fun c=>?_) (fun c k' hc hk'=>?_) ?_ (fun _ _ _ _ _ _ h=> .inl h) ?_ ?_ (fun g hg=>Nat.lt_of_lt_of_le (h.Flt g hg) hs) ?_ ?_ (h.keep.new hb hs ho ht hout) h.Fbd
 ·by_cases hc:c=b
  ·subst hc;exact .inl hu
  ·exact .inr (Stays.of_same (hpSet_other hc) (ηSet_other hc))
 ·subst hc
  rw [hpSet_same] at hk'
  injection hk' with hk'
  subst hk'
  exact hk
 ·intro c c' k1 k2 g hc h1 h2 hne hl1 hl2 hg
  subst hc
  rw [ηSet_same] at hg
  have hc':c'≠c:=Ne.symm hne
  rw [ηSet_other hc']
  rw [hpSet_other hc'] at h2
  intro hg'
  have:=h.lt h2 hg'
  have:=hv g hg
  omega
 ·intro c k1 g hc h1 hl1 hg hF
  subst hc
  rw [ηSet_same] at hg
  have:=hv g hg
  have:=h.Flt g hF
  omega
 ·intro c k1 g hc h1 hl1 hg
  subst hc
  rw [hpSet_same] at h1
  injection h1 with h1
  subst h1
  rw [hl] at hl1
  cases hl1
 ·intro c k1 g hc h1 hl1 hg
  subst hc
  rw [ηSet_same] at hg
  exact .inl ⟨Nat.le_trans h.keep.size (hv g hg),hbs⟩
 ·intro j v' k1 hj hg _
  subst hj
  rw [List.getElem?_eq_none (by omega)] at hg
  cases hg
theorem HRep.drop (h:HRep C w η F hp) {b:Nat} (hbs:C.bs.length≤b):HRep C w η F (hpSet hp b none):=by
 refine h.step (fun c=>c=b) (fun c hc=>⟨hpSet_other hc,rfl⟩) (fun _ _ _ _ _ _ _=>rfl) (Nat.le_refl _) (fun _ h=>h) (fun _ _=>rfl) (fun c=>?_) (fun c k' hc hk'=>?_) ?_ (fun _ _ _ _ _ _ h=> .inl h) ?_ ?_ h.Flt ?_ ?_ h.keep h.Fbd
 ·by_cases hc:c=b
  ·subst hc;exact .inr (.inl (hpSet_same _ _ _))
  ·exact .inr (Stays.of_same (hpSet_other hc) rfl)
 ·subst hc;rw [hpSet_same] at hk';cases hk'
 ·intro c c' k1 k2 g hc h1;subst hc;rw [hpSet_same] at h1;cases h1
 ·intro c k1 g hc h1;subst hc;rw [hpSet_same] at h1;cases h1
 ·intro c k1 g hc h1;subst hc;rw [hpSet_same] at h1;cases h1
 ·intro c k1 g hc h1;subst hc;rw [hpSet_same] at h1;cases h1
 ·intro j v k1 hj hg _;subst hj;rw [List.getElem?_eq_none (by omega)] at hg;cases hg
theorem HRep.write (h:HRep C w η F hp) {b:Nat} {k k':Blk} {g0:Nat} (hk:hp b=some k) (hlv:k.live=true) (hlv':k'.live=true) (hown:(η b).ownBlock=some g0)
 (hkind:Stays η η hp (hpSet hp b (some k')) b) (_hbx:∀e cells,k=.bx e cells→∃e cells,k'=.bx e cells)
 (hb:∀g,g≠g0→w'.heap[g]?=w.heap[g]?) (hs:w'.heap.size=w.heap.size) (ho:w'.os=w.os) (ht:w'.tape=w.tape) (hout:w'.output=w.output)
 (hr:BRep w' F η (hpSet hp b (some k')) b k'):HRep C w' η F (hpSet hp b (some k')):=by
 have hown:=own_of_block hown
 have hg0:¬F g0:=h.liveF b k g0 hk hlv hown
 refine h.step (fun c=>c=b) (fun c hc=>⟨hpSet_other hc,rfl⟩) (fun c k1 g hc hk1 hl hg=>hb g (fun e=>?_)) (Nat.le_of_eq hs.symm) (fun _ h=>h) (fun g hg=>hb g (fun e=>hg0 (e▸hg))) (fun c=>?_) (fun c k1 hc hk1=>?_) ?_ (fun _ _ _ _ _ _ h=> .inl h) ?_ ?_ (fun g hg=>by rw [hs];exact h.Flt g hg) ?_ ?_ ?_ h.Fbd
 ·subst e
  exact h.sep c b k1 k g hk1 hk hc hl hlv hg hown
 ·by_cases hc:c=b
  ·subst hc;exact .inr hkind
  ·exact .inr (Stays.of_same (hpSet_other hc) rfl)
 ·subst hc;rw [hpSet_same] at hk1;injection hk1 with hk1;subst hk1;exact hr
 ·intro c c' k1 k2 g hc h1 h2 hne hl1 hl2 hg
  subst hc
  rw [hpSet_other (Ne.symm hne)] at h2
  exact h.sep c c' k k2 g hk h2 hne hlv hl2 hg
 ·intro c k1 g hc h1 hl1 hg;subst hc;exact h.liveF c k g hk hlv hg
 ·intro c k1 g hc h1 hl1 hg;subst hc;rw [hpSet_same] at h1;injection h1 with h1;subst h1;rw [hlv'] at hl1;cases hl1
 ·intro c k1 g hc h1 hl1 hg;subst hc;exact h.fresh c k g hk hlv hg
 ·intro j v k1 hj hg hk1b
  subst hj
  have hgh:k.isGh=false→k'.isGh=false:=fun hq=>by
   rcases hkind with e| ⟨e1,e2,e3,e4,e5,e6,q1,q2,_⟩| ⟨e1,e2,e3,q1,q2,_⟩| ⟨e1,e2,q1,q2,_⟩
   ·rw [hpSet_same] at e;cases e
   ·rw [hpSet_same] at q2;injection q2 with q2;subst q2;rfl
   ·rw [hpSet_same] at q2;injection q2 with q2;subst q2;rfl
   ·rw [hk] at q1;injection q1 with q1;subst q1;cases hq
  have q:=h.bor j v k hg hk
  rw [hpSet_same] at hk1b;injection hk1b with hk1b;subst hk1b
  exact ⟨q.1,hgh q.2⟩
 ·refine ⟨ho.trans h.keep.os,ht.trans h.keep.tape,hout.trans h.keep.output,by rw [hs];exact h.keep.size,fun k1 hk1 hn=>(hb k1 fun e=>?_).trans (h.keep.block k1 hk1 hn)⟩
  subst e
  rcases h.fresh b k k1 hk hlv hown with h1| h1
  ·omega
  ·exact hn h1
theorem HRep.freeze (h:HRep C w η F hp) {b:Nat} {e:TypeId} {sz:Nat} {f:Bool} {rows:List (List TV)} (hk:hp b=some (.sl e sz f rows)):
 HRep C w η (fun g=>F g∨Own (η b) g) (hpSet hp b (some (.sl e sz true rows))):=by
 have hbr:=h.blocks b _ hk
 refine h.step (fun c=>c=b) (fun c hc=>⟨hpSet_other hc,rfl⟩) (fun _ _ _ _ _ _ _=>rfl) (Nat.le_refl _) (fun _ h=> .inl h) (fun _ _=>rfl) (fun c=>?_) (fun c k1 hc hk1=>?_) ?_ ?_ ?_ ?_ ?_ ?_ ?_ h.keep ?_
 ·by_cases hc:c=b
  ·subst hc;exact .inr (.inr (.inl ⟨e,sz,f,rows,true,rows,hk,hpSet_same _ _ _,rfl⟩))
  ·exact .inr (Stays.of_same (hpSet_other hc) rfl)
 ·subst hc
  rw [hpSet_same] at hk1
  injection hk1 with hk1
  subst hk1
  obtain ⟨cells,h1,h2,h3⟩:=hbr
  exact ⟨cells,h1,h2,fun i j row x hi hj=>let ⟨u,e1,e2⟩:=h3 i j row x hi hj;⟨u,e1,e2.keep (fun _ h=> .inl h) fun _ _=>rfl⟩⟩
 ·intro c c' k1 k2 g hc h1 h2 hne hl1;subst hc;rw [hpSet_same] at h1;injection h1 with h1;subst h1;cases hl1
 ·intro c k1 g h1 hl hg hF
  by_cases hc:c=b
  ·subst hc;rw [hpSet_same] at h1;injection h1 with h1;subst h1;cases hl
  ·rw [hpSet_other hc] at h1
   rcases hF with hF| hF
   ·exact .inl hF
   ·cases f with
    | true=>exact .inl (h.frzF b _ g hk rfl hF)
    | false=>exact (h.sep c b k1 _ g h1 hk hc hl rfl hg hF).elim
 ·intro c k1 g hc h1 hl1 hg;subst hc;rw [hpSet_same] at h1;injection h1 with h1;subst h1;cases hl1
 ·intro c k1 g hc h1 hl1 hg;subst hc;exact .inr hg
 ·intro g hg
  rcases hg with hg| hg
  ·exact h.Flt g hg
  ·exact h.lt hk hg
 ·intro c k1 g hc h1 hl1 hg;subst hc;rw [hpSet_same] at h1;injection h1 with h1;subst h1;cases hl1
 ·intro j v k1 hj hg hk1
  subst hj
  rw [hpSet_same] at hk1;injection hk1 with hk1;subst hk1
  exact ⟨(h.bor j v _ hg hk).1,rfl⟩
 ·intro g hg
  rcases hg with hg| hg
  ·exact h.Fbd g hg
  ·cases f with
   | true=>exact h.Fbd g (h.frzF b _ g hk rfl hg)
   | false=>
     rcases h.fresh b _ g hk rfl hg with h1| h1
     ·exact .inr (.inl h1.1)
     ·exact .inr (.inr h1)
end
end Go.Proofs.YtgbkhjllbgmdcaaGreat
namespace Go.Proofs.YtgbkhjllbgmdcaaGreat
open Go.RowKit
inductive Shp where
 | int (k:IntKind)
 | bool
 | slice (e:TypeId)
 | struct (fs:List (Nat × Nat × TypeId))
 | array (n:Nat) (e:TypeId)
 | other
structure Ty where
 shp:Shp
 size:Nat
 bytes:Nat
 zero:List TV
def Ty.isAgg (y:Ty):Bool:=match y.shp with| .struct _| .array .. =>true| _=>false
def TV.val0:TV→Value
 | .int k n=> .int k n
 | .bool b=> .bool b
 | .nil=> .slice none 0 0
 | .tree _=>undef
 | .nilf=> .nilFunc
 | .nilm=> .map none
 | .mp _=>undef
 | .lk _=>undef
def TV.flat:TV→Bool
 | .tree _=>false
 | .mp _=>false
 | .lk _=>false
 | _=>true
def val0B:TV→Value→Bool
 | .int k n,.int k' n'=>k==k'&&n==n'
 | .bool b,.bool b'=>b==b'
 | .nil,.slice none 0 0=>true
 | .nilf,.nilFunc=>true
 | .nilm,.map none=>true
 | _,_=>false
theorem val0B_eq {t:TV} {v:Value} (h:val0B t v=true):v=t.val0∧t.flat=true:=by
 unfold val0B at h
 split at h
 ·simp at h;simp [TV.val0,TV.flat,h]
 ·simp at h;simp [TV.val0,TV.flat,h]
 ·simp [TV.val0,TV.flat]
 ·simp [TV.val0,TV.flat]
 ·simp [TV.val0,TV.flat]
 ·cases h
def shpB (P:Program):Option TypeDesc→Shp→Bool
 | some (.int k),.int k'=>k==k'
 | some .bool,.bool=>true
 | some (.slice e),.slice e'=>e==e'
 | some (.struct fs),.struct l=>fs.toList.map (fun f=>(f.offset,P.cellsOf f.type,f.type))==l
 | some (.array n e),.array n' e'=>n==n'&&e==e'
 | some (.struct _),.other=>false
 | some (.array ..),.other=>false
 | some _,.other=>true
 | _,_=>false
def all2 {α β:Type} (p:α→β→Bool):List α→List β→Bool
 | [],[]=>true
 | a::as,b::bs=>p a b&&all2 p as bs
 | _,_=>false
def tyB (P:Program) (t:TypeId) (y:Ty):Bool:=
 (match P.info? t with
  | none=>false
  | some i=>i.size==y.size&&i.bytes==y.bytes&&(y.zero.isEmpty|| match i.zero with| some z=>all2 val0B y.zero z.cells.toList| none=>false))&&shpB P (P.underlying t) y.shp
abbrev Tys:=List (TypeId × Ty)
def Tys.get (T:Tys) (t:TypeId):Option Ty:=match T with
 | []=>none
 | (u,y)::r=>match Nat.beq u t with
   | true=>some y
   | false=>Tys.get r t
def tysB (P:Program) (T:Tys):Bool:=T.all fun (t,y)=>tyB P t y
theorem tyB_of {P:Program} {T:Tys} (h:tysB P T=true) {t:TypeId} {y:Ty} (hy:T.get t=some y):tyB P t y=true:=by
 induction T with
 | nil=>cases hy
 | cons a r ih=>
   obtain ⟨u,z⟩:=a
   simp only [tysB,List.all_cons,Bool.and_eq_true] at h
   unfold Tys.get at hy
   cases he:Nat.beq u t with
   | true=>
     rw [he] at hy
     have:=Nat.eq_of_beq_eq_true he
     subst this
     injection hy with hy
     subst hy
     exact h.1
   | false=>
     rw [he] at hy
     exact ih h.2 hy
theorem all2_val0 {zs:List TV} {vs:List Value} (h:all2 val0B zs vs=true):vs=zs.map TV.val0∧∀z∈zs,z.flat=true:=by
 induction zs generalizing vs with
 | nil=>cases vs with
   | nil=>exact ⟨rfl,by simp⟩
   | cons=>cases h
 | cons z zs ih=>cases vs with
   | nil=>cases h
   | cons v vs=>
     simp only [all2,Bool.and_eq_true] at h
     obtain ⟨h1,h2⟩:=val0B_eq h.1
     obtain ⟨h3,h4⟩:=ih h.2
     refine ⟨by rw [h1,h3];rfl,fun x hx=>?_⟩
     rcases List.mem_cons.1 hx with rfl| hx
     ·exact h2
     ·exact h4 x hx
structure TyFits (P:Program) (t:TypeId) (y:Ty):Prop where
 info:∃i,P.info? t=some i∧i.size=y.size∧i.bytes=y.bytes∧(y.zero≠[]→∃z,i.zero=some z∧z.cells.toList=y.zero.map TV.val0∧∀x∈y.zero,x.flat=true)
 shp:shpB P (P.underlying t) y.shp=true
theorem TyFits.of {P:Program} {T:Tys} (h:tysB P T=true) {t:TypeId} {y:Ty} (hy:T.get t=some y):TyFits P t y:=by
 have:=tyB_of h hy
 unfold tyB at this
 rw [Bool.and_eq_true] at this
 refine ⟨?_,this.2⟩
 have h1:=this.1
 split at h1
 ·cases h1
 ·rename_i i hi
  simp only [Bool.and_eq_true,beq_iff_eq,Bool.or_eq_true,List.isEmpty_iff] at h1
  refine ⟨i,hi,h1.1.1,h1.1.2,fun hz=>?_⟩
  have h2:=h1.2.resolve_left hz
  split at h2
  ·rename_i z hz'
   obtain ⟨h3,h4⟩:=all2_val0 h2
   exact ⟨z,hz',h3,h4⟩
  ·cases h2
section
variable {P:Program} {t:TypeId} {y:Ty} {w:World}
theorem TyFits.slice (h:TyFits P t y) {e:TypeId} (hs:y.shp=.slice e):P.underlying t=some (.slice e):=by
 have:=h.shp
 rw [hs] at this
 unfold shpB at this
 split at this<;>first| contradiction| skip
 rename_i he heq
 injection heq with heq
 simp at this
 subst heq;subst this
 assumption
theorem TyFits.array (h:TyFits P t y) {n:Nat} {e:TypeId} (hs:y.shp=.array n e):P.underlying t=some (.array n e):=by
 have:=h.shp
 rw [hs] at this
 unfold shpB at this
 split at this<;>first| contradiction| skip
 rename_i he heq
 injection heq with h1 h2
 simp at this
 subst h1;subst h2
 rw [←this.1,←this.2]
 assumption
theorem TyFits.struct (h:TyFits P t y) {l:List (Nat × Nat × TypeId)} (hs:y.shp=.struct l):∃fs:Array Field,P.underlying t=some (.struct fs)∧fs.toList.map (fun f=>(f.offset,P.cellsOf f.type,f.type))=l:=by
 have:=h.shp
 rw [hs] at this
 unfold shpB at this
 split at this<;>first| contradiction| skip
 rename_i fs l' he heq
 injection heq with heq
 subst heq
 exact ⟨fs,by assumption,by simpa using this⟩
theorem TyFits.bool (h:TyFits P t y) (hs:y.shp=.bool):P.underlying t=some .bool:=by
 have:=h.shp
 rw [hs] at this
 unfold shpB at this
 split at this<;>first| contradiction| skip
 assumption
theorem TyFits.int (h:TyFits P t y) {k:IntKind} (hs:y.shp=.int k):P.underlying t=some (.int k):=by
 have:=h.shp
 rw [hs] at this
 unfold shpB at this
 split at this<;>first| contradiction| skip
 rename_i heq
 injection heq with heq
 simp at this
 subst heq;subst this
 assumption
theorem TyFits.run_size (h:TyFits P t y):(sizeOf t).run P w=.ok y.size w:=by
 obtain ⟨i,h1,h2,_⟩:=h.info
 simp [sizeOf,typeInfo,h1,h2]
theorem TyFits.run_under (h:TyFits P t y):∃d,P.underlying t=some d∧((match d with| .struct _| .array _ _=>true| _=>false)=y.isAgg):=by
 have:=h.shp
 unfold Ty.isAgg
 unfold shpB at this
 split at this<;>first| contradiction| (refine ⟨_,by assumption,?_⟩;simp_all)| skip
theorem TyFits.run_isAgg (h:TyFits P t y):(isAgg t).run P w=.ok y.isAgg w:=by
 obtain ⟨d,h1,h2⟩:=h.run_under
 unfold isAgg
 rw [Sem.run_bind,run_underlying h1 w,←h2]
 cases d<;>rfl
theorem TyFits.zero (h:TyFits P t y) (hz:y.zero≠[]):(∃z,(zeroValue t).run P w=.ok z w∧z.cells.toList=y.zero.map TV.val0)∧∀x∈y.zero,x.flat=true:=by
 obtain ⟨i,h1,_,_,h4⟩:=h.info
 obtain ⟨z,h5,h6,h7⟩:=h4 hz
 exact ⟨⟨z,by simp [zeroValue,typeInfo,h1,h5],h6⟩,h7⟩
theorem Tr.val0 {F:Nat→Prop} {x:TV} (h:x.flat=true):Tr w F x x.val0:=by
 cases x with
 | int=>exact .int _ _
 | bool=>exact .bool _
 | nil=>exact .nil
 | tree rows=>cases h
 | nilf=>exact .nilf
 | nilm=>exact .nilm
 | mp l=>cases h
 | lk j=>cases h
end
end Go.Proofs.YtgbkhjllbgmdcaaGreat
namespace Go.Proofs.YtgbkhjllbgmdcaaGreat
open Go.RowKit
structure Eff where
 need:List (Nat × Blk)
 new:List Nat
 upd:List (Nat × Option Blk)
 r:SV
def OStep (P:Program) (o:Oper) (ev:Operand→SV) (ρ:Eff):Prop:=
 ∀(C:Ctx) (w:World) (η:Nat→Value) (F:Nat→Prop) (sl:Sl) (hp:Hp) (N:Nat) (a:Act) (K:Act→World→Prop) (Q:Exit→Act→World→Prop),
  Reps C w η F sl hp N a→(∀x∈o.op.operands.toList,evalS sl x=ev x)→(∀p∈ρ.need,hp p.1=some p.2)→
  (∀b∈ρ.new,hp b=none∧UnmentB hp b∧UnmentS sl b∧C.bs.length≤b)→(∀t,o.dst=some t→t<N)→
  (∀v w' η' F',Reps C w' η' F' (sl.put o.dst ρ.r) (hpUpd hp ρ.upd) N (a.put o.dst v)→K (a.put o.dst v) w')→o.wp P a w K Q
theorem Tr.int_inv {w:World} {F:Nat→Prop} {k:IntKind} {n:Int} {u:Value} (h:Tr w F (.int k n) u):u=.int k n:=by cases h;rfl
theorem Tr.bool_inv {w:World} {F:Nat→Prop} {b:Bool} {u:Value} (h:Tr w F (.bool b) u):u=.bool b:=by cases h;rfl
theorem Tr.nil_inv {w:World} {F:Nat→Prop} {u:Value} (h:Tr w F .nil u):u=.slice none 0 0:=by cases h;rfl
def iS (k:IntKind) (n:Int):SV:=.w (.c (.v (.int k n)))
def bS (b:Bool):SV:=.w (.c (.v (.bool b)))
def tS (rows:List (List TV)):SV:=.w (.c (.v (.tree rows)))
def nS:SV:=.w (.c (.v .nil))
section
variable {P:Program} {C:Ctx} {w:World} {η:Nat→Value} {F:Nat→Prop} {sl:Sl} {hp:Hp} {N:Nat} {a:Act} {o:Oper} {ev:Operand→SV}
theorem Reps.int (h:Reps C w η F sl hp N a) {x:Operand} {k:IntKind} {n:Int} (e:evalS sl x=iS k n):a.eval x=.int k n:=by
 have:=h.eval x
 rw [e] at this
 exact Tr.int_inv this
theorem Reps.boolv (h:Reps C w η F sl hp N a) {x:Operand} {b:Bool} (e:evalS sl x=bS b):a.eval x=.bool b:=by
 have:=h.eval x
 rw [e] at this
 exact Tr.bool_inv this
theorem Reps.nilv (h:Reps C w η F sl hp N a) {x:Operand} (e:evalS sl x=nS):a.eval x=.slice none 0 0:=by
 have:=h.eval x
 rw [e] at this
 exact Tr.nil_inv this
theorem Reps.treev (h:Reps C w η F sl hp N a) {x:Operand} {rows:List (List TV)} (e:evalS sl x=tS rows):Tr w F (.tree rows) (a.eval x):=by
 have:=h.eval x
 rw [e] at this
 exact this
theorem Reps.mrefv (h:Reps C w η F sl hp N a) {x:Operand} {b:Nat} {e:TypeId} {sz:Nat} {f:Bool} {rows:List (List TV)} (he:evalS sl x=.w (.c (.mref b))) (hb:hp b=some (.sl e sz f rows)):a.eval x=η b:=by
 have:=h.eval x
 rw [he] at this
 simp only [SRep,WRep,CRep,hb] at this
 exact this
theorem OStep.pure {need:List (Nat × Blk)} {r:SV}
 (h:∀(C:Ctx) (w:World) (η:Nat→Value) (F:Nat→Prop) (sl:Sl) (hp:Hp) (N:Nat) (a:Act),Reps C w η F sl hp N a→(∀x∈o.op.operands.toList,evalS sl x=ev x)→(∀p∈need,hp p.1=some p.2)→
  ∃v,(execOp a.eval o).run P w=.ok (.value v) w∧SRep w F η hp r v):OStep P o ev ⟨need,[],[],r⟩:=by
 intro C w η F sl hp N a K Q hR hev hn _ hd hK
 obtain ⟨v,h1,h2⟩:=h C w η F sl hp N a hR hev hn
 unfold Oper.wp
 rw [h1]
 exact hK v w η F (hR.put h2 hd)
theorem OStep.heap {need:List (Nat × Blk)} {new:List Nat} {upd:List (Nat × Option Blk)} {r:SV}
 (h:∀(C:Ctx) (w:World) (η:Nat→Value) (F:Nat→Prop) (sl:Sl) (hp:Hp) (N:Nat) (a:Act),Reps C w η F sl hp N a→(∀x∈o.op.operands.toList,evalS sl x=ev x)→(∀p∈need,hp p.1=some p.2)→
  (∀b∈new,hp b=none∧UnmentB hp b∧UnmentS sl b∧C.bs.length≤b)→
  ∃v w' η' F',((execOp a.eval o).run P w=.ok (.value v) w'∨((execOp a.eval o).run P w=.ok .skip w'∧v=undef))∧HRep C w' η' F' (hpUpd hp upd)∧(∀g,F g→F' g)∧(∀g,F g→w'.heap[g]?=w.heap[g]?)∧
   (∀c,UnmentS sl c∨Stays η η' hp (hpUpd hp upd) c)∧SRep w' F' η' (hpUpd hp upd) r v):OStep P o ev ⟨need,new,upd,r⟩:=by
 intro C w η F sl hp N a K Q hR hev hn hnew hd hK
 obtain ⟨v,w',η',F',h1,h2,h3,h4,h5,h6⟩:=h C w η F sl hp N a hR hev hn hnew
 have hR':Reps C w' η' F' sl (hpUpd hp upd) N a:=⟨hR.size,hR.defers,fun t=>hR.heap.slot (hR.slots t) h3 h4 fun c=>(h5 c).imp (fun h=>h t) id,h2⟩
 unfold Oper.wp
 rcases h1 with h1| ⟨h1,rfl⟩
 ·rw [h1]
  exact hK v w' η' F' (hR'.put h6 hd)
 ·rw [h1]
  exact hK undef w' η' F' (hR'.put h6 hd)
theorem OStep.move {x:Operand} (ho:o.op=.move x):OStep P o ev ⟨[],[],[],ev x⟩:=
 .pure fun C w η F sl hp N a hR hev _=>⟨a.eval x,by unfold execOp;rw [ho];rfl,by rw [←hev x (by simp [ho,Op.operands])];exact hR.eval x⟩
theorem OStep.assign {x:Operand} (ho:o.op=.assign x):OStep P o ev ⟨[],[],[],ev x⟩:=
 .pure fun C w η F sl hp N a hR hev _=>⟨a.eval x,by unfold execOp;rw [ho];rfl,by rw [←hev x (by simp [ho,Op.operands])];exact hR.eval x⟩
theorem OStep.pickT {c x y:Operand} (ho:o.op=.pick c x y) (hc:ev c=bS true):OStep P o ev ⟨[],[],[],ev x⟩:=
 .pure fun C w η F sl hp N a hR hev _=>by
  have e:=hR.boolv ((hev c (by simp [ho,Op.operands])).trans hc)
  refine ⟨a.eval x,?_,by rw [←hev x (by simp [ho,Op.operands])];exact hR.eval x⟩
  unfold execOp;rw [ho];simp [e,asBool]
theorem OStep.pickF {c x y:Operand} (ho:o.op=.pick c x y) (hc:ev c=bS false):OStep P o ev ⟨[],[],[],ev y⟩:=
 .pure fun C w η F sl hp N a hR hev _=>by
  have e:=hR.boolv ((hev c (by simp [ho,Op.operands])).trans hc)
  refine ⟨a.eval y,?_,by rw [←hev y (by simp [ho,Op.operands])];exact hR.eval y⟩
  unfold execOp;rw [ho];simp [e,asBool]
theorem OStep.not {x:Operand} {T:TypeId} {b:Bool} (ho:o.op=.unOp .not T x) (hx:ev x=bS b):OStep P o ev ⟨[],[],[],bS (!b)⟩:=
 .pure fun C w η F sl hp N a hR hev _=>by
  have e:=hR.boolv ((hev x (by simp [ho,Op.operands])).trans hx)
  refine ⟨.bool (!b),?_,.bool _⟩
  unfold execOp;rw [ho];simp [e,Op.unary]
theorem OStep.int2 {op:BinOp} {T T':TypeId} {x y:Operand} {k k':IntKind} {m n:Int} {r:TV} {v:Value} (ho:o.op=.binOp op T x y T') (hx:ev x=iS k m) (hy:ev y=iS k' n)
 (hr:∀w,(binOp op T (.int k m) (.int k' n)).run P w=.ok v w) (hv:∀w F,Tr w F r v):OStep P o ev ⟨[],[],[],.w (.c (.v r))⟩:=
 .pure fun C w η F sl hp N a hR hev _=>by
  have e1:=hR.int ((hev x (by simp [ho,Op.operands])).trans hx)
  have e2:=hR.int ((hev y (by simp [ho,Op.operands])).trans hy)
  refine ⟨v,?_,hv w F⟩
  unfold execOp;rw [ho];simp only [e1,e2]
  have hg:(eqGuard op T x y (.int k m) (.int k' n)).run P w=.ok () w:=by unfold eqGuard;cases op<;>rfl
  simp only [Sem.run_bind,hg,Result.andThen_ok,hr w]
  rfl
theorem OStep.lss {T T':TypeId} {x y:Operand} {k:IntKind} {m n:Int} (ho:o.op=.binOp .lss T x y T') (hx:ev x=iS k m) (hy:ev y=iS k n):OStep P o ev ⟨[],[],[],bS (decide (m<n))⟩:=
 .int2 ho hx hy (fun w=>by simp [binOp,Op.intCmp]) (fun _ _=> .bool _)
theorem OStep.leq {T T':TypeId} {x y:Operand} {k:IntKind} {m n:Int} (ho:o.op=.binOp .leq T x y T') (hx:ev x=iS k m) (hy:ev y=iS k n):OStep P o ev ⟨[],[],[],bS (decide (m≤n))⟩:=
 .int2 ho hx hy (fun w=>by simp [binOp,Op.intCmp]) (fun _ _=> .bool _)
theorem OStep.gtr {T T':TypeId} {x y:Operand} {k:IntKind} {m n:Int} (ho:o.op=.binOp .gtr T x y T') (hx:ev x=iS k m) (hy:ev y=iS k n):OStep P o ev ⟨[],[],[],bS (decide (n<m))⟩:=
 .int2 ho hx hy (fun w=>by simp [binOp,Op.intCmp]) (fun _ _=> .bool _)
theorem OStep.geq {T T':TypeId} {x y:Operand} {k:IntKind} {m n:Int} (ho:o.op=.binOp .geq T x y T') (hx:ev x=iS k m) (hy:ev y=iS k n):OStep P o ev ⟨[],[],[],bS (decide (n≤m))⟩:=
 .int2 ho hx hy (fun w=>by simp [binOp,Op.intCmp]) (fun _ _=> .bool _)
theorem OStep.eql {T T':TypeId} {x y:Operand} {k:IntKind} {m n:Int} (ho:o.op=.binOp .eql T x y T') (hx:ev x=iS k m) (hy:ev y=iS k n):OStep P o ev ⟨[],[],[],bS (decide (m=n))⟩:=
 .int2 ho hx hy (v:=.bool (m==n)) (fun w=>by simp [binOp,Op.intCmp]) (fun _ _=>by rw [show (m==n)=decide (m=n) from rfl];exact .bool _)
theorem OStep.neq {T T':TypeId} {x y:Operand} {k:IntKind} {m n:Int} (ho:o.op=.binOp .neq T x y T') (hx:ev x=iS k m) (hy:ev y=iS k n):OStep P o ev ⟨[],[],[],bS (!decide (m=n))⟩:=
 .int2 ho hx hy (v:=.bool (m !=n)) (fun w=>by simp [binOp,Op.intCmp]) (fun _ _=>by rw [show (m !=n)= !decide (m=n) from rfl];exact .bool _)
theorem OStep.add {T T':TypeId} {x y:Operand} {m n:Int} (ho:o.op=.binOp .add T x y T') (hx:ev x=iS .i64 m) (hy:ev y=iS .i64 n) (h: -9223372036854775808≤m+n∧m+n≤9223372036854775807):OStep P o ev ⟨[],[],[],iS .i64 (m+n)⟩:=
 .int2 ho hx hy (v:=.int .i64 (m+n)) (fun w=>by simp [binOp,Op.intArith,IntWalk.i64_in (m+n) h]) (fun _ _=> .int _ _)
theorem OStep.sub {T T':TypeId} {x y:Operand} {m n:Int} (ho:o.op=.binOp .sub T x y T') (hx:ev x=iS .i64 m) (hy:ev y=iS .i64 n) (h: -9223372036854775808≤m- n∧m- n≤9223372036854775807):OStep P o ev ⟨[],[],[],iS .i64 (m- n)⟩:=
 .int2 ho hx hy (v:=.int .i64 (m- n)) (fun w=>by simp [binOp,Op.intArith,IntWalk.i64_in (m- n) h]) (fun _ _=> .int _ _)
theorem OStep.mul {T T':TypeId} {x y:Operand} {m n:Int} (ho:o.op=.binOp .mul T x y T') (hx:ev x=iS .i64 m) (hy:ev y=iS .i64 n) (h: -9223372036854775808≤m*n∧m*n≤9223372036854775807):OStep P o ev ⟨[],[],[],iS .i64 (m*n)⟩:=
 .int2 ho hx hy (v:=.int .i64 (m*n)) (fun w=>by simp [binOp,Op.intArith,IntWalk.i64_in (m*n) h]) (fun _ _=> .int _ _)
theorem OStep.quo {T T':TypeId} {x y:Operand} {m n:Int} (ho:o.op=.binOp .quo T x y T') (hx:ev x=iS .i64 m) (hy:ev y=iS .i64 n) (h0:n≠0) (h: -9223372036854775808≤m.tdiv n∧m.tdiv n≤9223372036854775807):OStep P o ev ⟨[],[],[],iS .i64 (m.tdiv n)⟩:=
 .int2 ho hx hy (v:=.int .i64 (m.tdiv n)) (fun w=>by simp [binOp,Op.intDiv,h0,IntWalk.i64_in (m.tdiv n) h]) (fun _ _=> .int _ _)
theorem OStep.rem {T T':TypeId} {x y:Operand} {m n:Int} (ho:o.op=.binOp .rem T x y T') (hx:ev x=iS .i64 m) (hy:ev y=iS .i64 n) (h0:n≠0):OStep P o ev ⟨[],[],[],iS .i64 (m.tmod n)⟩:=
 .int2 ho hx hy (v:=.int .i64 (m.tmod n)) (fun w=>by simp [binOp,Op.intDiv,h0]) (fun _ _=> .int _ _)
theorem OStep.shr {T T':TypeId} {x y:Operand} {k k':IntKind} {m n:Int} (ho:o.op=.binOp .shr T x y T') (hx:ev x=iS k m) (hy:ev y=iS k' n) (h0:0≤n) (h1:n≤64) (hk:k=.i64∨k=.u64):OStep P o ev ⟨[],[],[],iS k (m / 2 ^ n.toNat)⟩:=
 .int2 ho hx hy (v:=.int k (m / 2 ^ n.toNat)) (fun w=>by
  have e:min n.toNat 64=n.toNat:=by omega
  have e2:¬n<0:=by omega
  rcases hk with rfl| rfl<;>simp [binOp, *]) (fun _ _=> .int _ _)
theorem OStep.conv {T T':TypeId} {x:Operand} {k k':IntKind} {m:Int} (ho:o.op=.convert T T' x) (hx:ev x=iS k m) (hu:P.underlying T=some (.int k)) (hu':P.underlying T'=some (.int k')) (h:k'.wrap m=m):OStep P o ev ⟨[],[],[],iS k' m⟩:=
 .pure fun C w η F sl hp N a hR hev _=>by
  have e:=hR.int ((hev x (by simp [ho,Op.operands])).trans hx)
  refine ⟨.int k' m,?_,.int _ _⟩
  unfold execOp;rw [ho]
  simp [e,convert,run_underlying hu,run_underlying hu',Conv.intToInt,h]
theorem OStep.boolEq {T T':TypeId} {x y:Operand} {m n:Bool} (hu:P.underlying T=some .bool) (ho:o.op=.binOp .eql T x y T') (hx:ev x=bS m) (hy:ev y=bS n):OStep P o ev ⟨[],[],[],bS (m==n)⟩:=
 .pure fun C w η F sl hp N a hR hev _=>by
  have e1:=hR.boolv ((hev x (by simp [ho,Op.operands])).trans hx)
  have e2:=hR.boolv ((hev y (by simp [ho,Op.operands])).trans hy)
  refine ⟨.bool (m==n),?_,.bool _⟩
  have hq:(Op.equal T (.bool m) (.bool n)).run P w=.ok (m==n) w:=by unfold Op.equal Op.maxDepth;rw [Op.equalIn];simp [run_underlying hu]
  have hb:binOp .eql T (.bool m) (.bool n)=(do Pure.pure (Value.bool (←Op.equal T (.bool m) (.bool n)))):=rfl
  have hg:(eqGuard .eql T x y (.bool m) (.bool n)).run P w=.ok () w:=rfl
  unfold execOp;rw [ho];simp only [e1,e2,Sem.run_bind,hg,Result.andThen_ok,hb,hq]
  rfl
theorem OStep.boolNe {T T':TypeId} {x y:Operand} {m n:Bool} (hu:P.underlying T=some .bool) (ho:o.op=.binOp .neq T x y T') (hx:ev x=bS m) (hy:ev y=bS n):OStep P o ev ⟨[],[],[],bS (m !=n)⟩:=
 .pure fun C w η F sl hp N a hR hev _=>by
  have e1:=hR.boolv ((hev x (by simp [ho,Op.operands])).trans hx)
  have e2:=hR.boolv ((hev y (by simp [ho,Op.operands])).trans hy)
  refine ⟨.bool (m !=n),?_,.bool _⟩
  have hq:(Op.equal T (.bool m) (.bool n)).run P w=.ok (m==n) w:=by unfold Op.equal Op.maxDepth;rw [Op.equalIn];simp [run_underlying hu]
  have hb:binOp .neq T (.bool m) (.bool n)=(do Pure.pure (Value.bool (!(←Op.equal T (.bool m) (.bool n))))):=rfl
  have hg:(eqGuard .neq T x y (.bool m) (.bool n)).run P w=.ok () w:=rfl
  unfold execOp;rw [ho];simp only [e1,e2,Sem.run_bind,hg,Result.andThen_ok,hb,hq]
  rfl
theorem OStep.extract {x:Operand} {i:Nat} {l:List WV} {y:WV} (ho:o.op=.extract x i) (hx:ev x=.tup l) (hi:l[i]?=some y):OStep P o ev ⟨[],[],[],.w y⟩:=
 .pure fun C w η F sl hp N a hR hev _=>by
  have:=hR.eval x
  rw [hev x (by simp [ho,Op.operands]),hx] at this
  obtain ⟨us,h1,h2,h3⟩:=this
  have hl:i<us.length:=by rw [h2];exact (List.getElem?_eq_some_iff.1 hi).1
  refine ⟨us[i],?_,h3 i y us[i] hi (List.getElem?_eq_getElem hl)⟩
  unfold execOp;rw [ho];simp [h1,Instr.extract,hl]
end
end Go.Proofs.YtgbkhjllbgmdcaaGreat
namespace Go.Proofs.YtgbkhjllbgmdcaaGreat
open Go.RowKit
theorem addr_add (g p j:Nat):(⟨g,p,none⟩:Addr).add j=⟨g,p+j,none⟩:=by unfold Addr.add;split<;>simp_all
section
variable {P:Program} {t:TypeId} {y:Ty} {w:World}
theorem run_loadOne (hy:TyFits P t y) (ha:y.isAgg=false) {g p:Nat} {u:Value} (hc:w.cell? ⟨g,p,none⟩=some u):(loadVar t ⟨g,p,none⟩).run P w=.ok u w:=by
 unfold loadVar
 rw [Sem.run_bind,hy.run_isAgg,ha]
 simp [hc]
theorem run_loadAgg (hy:TyFits P t y) (ha:y.isAgg=true) {g p:Nat} {us:List Value} (hn:us.length=y.size) (hc:∀j u,us[j]?=some u→w.cell? ⟨g,p+j,none⟩=some u):(loadVar t ⟨g,p,none⟩).run P w=.ok (.agg us.toArray) w:=by
 have hl:=run_loadCells_list (P:=P) w ⟨g,p,none⟩ us (fun j v hv=>by rw [addr_add];exact hc j v hv)
 unfold loadVar
 rw [Sem.run_bind,hy.run_isAgg,ha]
 simp [hy.run_size,←hn,hl]
end
def cut (y:Ty) (cells:List AV) (o:Nat):Option WV:=
 if y.isAgg then (if o+y.size≤cells.length then some (.agg ((cells.drop o).take y.size)) else none) else (cells[o]?).map .c
section
variable {P:Program} {C:Ctx} {w:World} {η:Nat→Value} {F:Nat→Prop} {sl:Sl} {hp:Hp} {N:Nat} {a:Act} {o:Oper} {ev:Operand→SV} {t:TypeId} {y:Ty}
theorem run_cut (hy:TyFits P t y) {cells:List AV} {i:Nat} {r:WV} (hr:cut y cells i=some r) {g p:Nat} {us:List Value} (hus:CsRep w F η hp cells us) (hc:∀j u,us[j]?=some u→w.cell? ⟨g,p+j,none⟩=some u):
 ∃u,(loadVar t ⟨g,p+i,none⟩).run P w=.ok u w∧WRep w F η hp r u:=by
 unfold cut at hr
 split at hr
 ·rename_i ha
  split at hr
  ·rename_i hle
   injection hr with hr
   subst hr
   refine ⟨_,run_loadAgg hy ha (us:=(us.drop i).take y.size) (by rw [List.length_take,List.length_drop,hus.1];omega) (fun j u hj=>?_),(us.drop i).take y.size,rfl,?_,?_,?_⟩
   ·rw [List.getElem?_take] at hj
    split at hj
    ·rw [List.getElem?_drop] at hj
     rw [Nat.add_assoc]
     exact hc _ _ hj
    ·cases hj
   ·rw [List.length_take,List.length_drop,List.length_take,List.length_drop,hus.1]
   ·intro y hy;exact hus.2.1 y (List.mem_of_mem_drop (List.mem_of_mem_take hy))
   ·intro j x z hx hz
    rw [List.getElem?_take] at hx hz
    split at hx
    ·rw [if_pos (by assumption)] at hz
     rw [List.getElem?_drop] at hx hz
     exact hus.2.2 _ _ _ hx hz
    ·cases hx
  ·cases hr
 ·rename_i ha
  rw [Option.map_eq_some_iff] at hr
  obtain ⟨x,h1,h2⟩:=hr
  subst h2
  have hlt:i<us.length:=by rw [hus.1];exact (List.getElem?_eq_some_iff.1 h1).1
  exact ⟨us[i],run_loadOne hy (by simpa using ha) (hc i _ (List.getElem?_eq_getElem hlt)),hus.2.2 i x _ h1 (List.getElem?_eq_getElem hlt)⟩
theorem csRep_closed {row:List TV} {us:List Value} (hl:us.length=row.length) (h:∀(j:Nat) (x:TV) (u:Value),row[j]?=some x→us[j]?=some u→Tr w F x u):CsRep w F η hp (row.map .v) us:=by
 refine ⟨by simp [hl],fun u hu=>?_,fun i x u hx hu=>?_⟩
 ·obtain ⟨j,hj⟩:=List.mem_iff_getElem?.1 hu
  have hlt:j<row.length:=by rw [←hl];exact (List.getElem?_eq_some_iff.1 hj).1
  exact (h j row[j] u (List.getElem?_eq_getElem hlt) hj).oneCell
 ·rw [List.getElem?_map,Option.map_eq_some_iff] at hx
  obtain ⟨z,h1,rfl⟩:=hx
  exact h i z u h1 hu
theorem loadExec {x:Operand} (ho:o.op=.load t x) {g p:Nat} {u:Value} (e:a.eval x=.pointer (some ⟨g,p,none⟩)) (h:(loadVar t ⟨g,p,none⟩).run P w=.ok u w):(execOp a.eval o).run P w=.ok (.value u) w:=by
 unfold execOp;rw [ho]
 simp only [Instr.loadAt,Instr.sureAddr,e,Sem.run_bind,Sem.run_pure,Result.andThen_ok,h]
theorem OStep.loadBx {x:Operand} {b i off:Nat} {e:TypeId} {cells:List AV} {r:WV} (ho:o.op=.load t x) (hx:ev x=.w (.c (.ptr b i off))) (hy:TyFits P t y) (hr:cut y cells off=some r):OStep P o ev ⟨[(b,.bx e cells)],[],[],.w r⟩:=
 .pure fun C w η F sl hp N a hR hev hn=>by
  have hb:hp b=some (.bx e cells):=hn (b,.bx e cells) (by simp)
  have h1:=hR.eval x
  rw [hev x (by simp [ho,Op.operands]),hx] at h1
  simp only [SRep,WRep,CRep,hb] at h1
  obtain ⟨g,h2,h3⟩:=h1
  obtain ⟨g',cs,h4,h5,h6⟩:=hR.heap.blocks b _ hb
  rw [h2] at h4
  injection h4 with h4
  injection h4 with h4
  injection h4 with h4
  subst h4
  obtain ⟨u,h7,h8⟩:=run_cut (w:=w) hy hr (g:=g) (p:=0) h6 (fun j u hj=>by rw [Nat.zero_add,cell_of_row w g j _ _ _ h5];simpa using hj)
  rw [Nat.zero_add] at h7
  exact ⟨u,loadExec ho h3 h7,h8⟩
theorem OStep.loadT {x:Operand} {row:List TV} {off:Nat} {r:WV} (ho:o.op=.load t x) (hx:ev x=.w (.c (.tptr row off))) (hy:TyFits P t y) (hr:cut y (row.map .v) off=some r):OStep P o ev ⟨[],[],[],.w r⟩:=
 .pure fun C w η F sl hp N a hR hev hn=>by
  have h1:=hR.eval x
  rw [hev x (by simp [ho,Op.operands]),hx] at h1
  obtain ⟨g,p,cv,h2,h3,h4⟩:=h1
  have hus:∀(j:Nat) (u:Value),((List.range row.length).map cv)[j]?=some u→∃z,row[j]?=some z∧u=cv j:=fun j u hj=>by
   rw [List.getElem?_map,Option.map_eq_some_iff] at hj
   obtain ⟨z,h5,h6⟩:=hj
   obtain ⟨h7,h8⟩:=List.getElem?_eq_some_iff.1 h5
   simp at h7 h8
   exact ⟨row[j],List.getElem?_eq_getElem h7,by rw [←h6,←h8]⟩
  obtain ⟨u,h7,h8⟩:=run_cut (w:=w) hy hr (g:=g) (p:=p) (us:=(List.range row.length).map cv)
   (csRep_closed (by simp) fun j x u hx hu=>by obtain ⟨z,h5,rfl⟩:=hus j u hu;exact (h4 j x hx).2)
   (fun j u hj=>by obtain ⟨z,h5,rfl⟩:=hus j u hj;exact (h4 j z h5).1)
  exact ⟨u,loadExec ho h3 h7,h8⟩
theorem BRep.row {b:Nat} {e:TypeId} {sz:Nat} {f:Bool} {rows:List (List TV)} (h:BRep w F η hp b (.sl e sz f rows)) {i:Nat} {row:List TV} (hi:rows[i]?=some row):
 ∃g n c,η b=.slice (some ⟨g,0,none⟩) n c∧row.length=sz∧∃us:List Value,us.length=row.length∧(∀(j:Nat) (x:TV) (u:Value),row[j]?=some x→us[j]?=some u→Tr w F x u)∧∀(j:Nat) (u:Value),us[j]?=some u→w.cell? ⟨g,i*sz+j,none⟩=some u:=by
 obtain ⟨cells,h1,h2,h3⟩:=h
 have hrl:row.length=sz:=h2 row (List.mem_of_getElem? hi)
 have hlt:i<rows.length:=(List.getElem?_eq_some_iff.1 hi).1
 rcases h1.2 with ⟨e1,e2⟩| ⟨g,cap,cur,e1,e2,e3,e4⟩
 ·omega
 ·have hcl:=h1.cells (g:=g) (by rw [e1];rfl)
  refine ⟨g,_,_,e1,hrl,(cells.drop (i*sz)).take sz,?_,fun j x u hx hu=>?_,fun j u hu=>?_⟩
  ·have:i*sz+sz≤cells.length:=by rw [h1.1];calc i*sz+sz=(i+1)*sz:=by rw [Nat.add_mul,Nat.one_mul]
    _≤_:=Nat.mul_le_mul_right _ hlt
   rw [List.length_take,List.length_drop];omega
  ·rw [List.getElem?_take] at hu
   split at hu
   ·rw [List.getElem?_drop] at hu
    obtain ⟨u',h5,h6⟩:=h3 i j row x hi hx
    rw [hu] at h5
    injection h5 with h5
    subst h5
    exact h6
   ·cases hu
  ·rw [List.getElem?_take] at hu
   split at hu
   ·rw [List.getElem?_drop] at hu
    have:=hcl _ _ hu
    rw [addr_add,Nat.zero_add] at this
    exact this
   ·cases hu
theorem OStep.loadSl {x:Operand} {b i off:Nat} {e:TypeId} {sz:Nat} {f:Bool} {rows:List (List TV)} {row:List TV} {r:WV} (ho:o.op=.load t x) (hx:ev x=.w (.c (.ptr b i off))) (hy:TyFits P t y) (hi:rows[i]?=some row) (hr:cut y (row.map .v) off=some r):
 OStep P o ev ⟨[(b,.sl e sz f rows)],[],[],.w r⟩:=
 .pure fun C w η F sl hp N a hR hev hn=>by
  have hb:hp b=some (.sl e sz f rows):=hn (b,.sl e sz f rows) (by simp)
  have h1:=hR.eval x
  rw [hev x (by simp [ho,Op.operands]),hx] at h1
  simp only [SRep,WRep,CRep,hb] at h1
  obtain ⟨g,n,c,h2,h3⟩:=h1
  obtain ⟨g',n',c',h4,hsz,us,h5,h6,h7⟩:=(hR.heap.blocks b _ hb).row hi
  rw [h2] at h4
  injection h4 with h4
  injection h4 with h4
  injection h4 with h4
  subst h4
  obtain ⟨u,h8,h9⟩:=run_cut (w:=w) hy hr (g:=g) (p:=i*sz) (csRep_closed h5 h6) h7
  exact ⟨u,loadExec ho h3 h8,h9⟩
theorem OStep.idxT {x z:Operand} {rows:List (List TV)} {row:List TV} {k:IntKind} {n:Nat} {e:TypeId} {ye:Ty} (ho:o.op=.indexAddr t x z) (hx:ev x=tS rows) (hz:ev z=iS k (n:Int)) (hy:TyFits P t y) (hs:y.shp=.slice e) (hye:TyFits P e ye) (hi:rows[n]?=some row) (hsz:row.length=ye.size):
 OStep P o ev ⟨[],[],[],.w (.c (.tptr row 0))⟩:=
 .pure fun C w η F sl hp N a hR hev hn=>by
  have h1:=hR.treev ((hev x (by simp [ho,Op.operands])).trans hx)
  have h2:=hR.int ((hev z (by simp [ho,Op.operands])).trans hz)
  generalize hu:a.eval x=u at h1
  cases h1 with
  | empty a c hm=>simp at hi
  | tree _ g o' sz c cv hc hm hsz' hF hcell htr=>
    have hsz2:sz=ye.size:=by rw [←hsz,hsz' row (List.mem_of_getElem? hi)]
    have hlt:n<rows.length:=(List.getElem?_eq_some_iff.1 hi).1
    refine ⟨.pointer (some ⟨g,o'+n*sz,none⟩),?_,g,o'+n*sz,fun j=>cv n j,hF,rfl,fun j x hj=>⟨?_,htr n j row x hi hj⟩⟩
    ·unfold execOp;rw [ho]
     simp [Instr.indexAt,hu,h2,asIntOf,run_underlying (hy.slice hs),hye.run_size,hlt,addr_add,hsz2]
    ·rw [Nat.add_assoc];exact hcell n j row x hi hj
theorem OStep.idxM {x z:Operand} {b:Nat} {e':TypeId} {sz:Nat} {f:Bool} {rows:List (List TV)} {k:IntKind} {n:Nat} {e:TypeId} {ye:Ty} (ho:o.op=.indexAddr t x z) (hx:ev x=.w (.c (.mref b))) (hz:ev z=iS k (n:Int)) (hy:TyFits P t y) (hs:y.shp=.slice e) (hye:TyFits P e ye) (hi:n<rows.length) (hsz:sz=ye.size):
 OStep P o ev ⟨[(b,.sl e' sz f rows)],[],[],.w (.c (.ptr b n 0))⟩:=
 .pure fun C w η F sl hp N a hR hev hn=>by
  have hb:hp b=some (.sl e' sz f rows):=hn (b,.sl e' sz f rows) (by simp)
  have h1:=hR.mrefv ((hev x (by simp [ho,Op.operands])).trans hx) hb
  have h2:=hR.int ((hev z (by simp [ho,Op.operands])).trans hz)
  obtain ⟨g,nn,c,h3,_⟩:=(hR.heap.blocks b _ hb).row (List.getElem?_eq_getElem hi)
  obtain ⟨cells,h4,_⟩:=hR.heap.blocks b _ hb
  have hnn:nn=rows.length:=by
   rcases h4.2 with ⟨e1,e2⟩| ⟨g',cap,cur,e1,_⟩
   ·omega
   ·rw [h3] at e1;injection e1
  refine ⟨.pointer (some ⟨g,n*sz,none⟩),?_,?_⟩
  ·unfold execOp;rw [ho]
   simp [Instr.indexAt,h1,h3,h2,asIntOf,run_underlying (hy.slice hs),hye.run_size,hnn,hi,addr_add,hsz]
  ·simp only [SRep,WRep,CRep,hb]
   exact ⟨g,nn,c,h3,by rw [Nat.add_zero]⟩
end
end Go.Proofs.YtgbkhjllbgmdcaaGreat
namespace Go.Proofs.YtgbkhjllbgmdcaaGreat
open Go.RowKit
def WV.cells:WV→List AV
 | .c a=>[a]
 | .agg l=>l
def WV.ok:WV→Bool
 | .c .any=>false
 | _=>true
def putAt {α:Type} (l:List α) (o:Nat) (vs:List α):List α:=l.take o++vs++l.drop (o+vs.length)
section
variable {P:Program} {C:Ctx} {w:World} {η:Nat→Value} {F:Nat→Prop} {sl:Sl} {hp:Hp} {N:Nat} {a:Act} {o:Oper} {ev:Operand→SV} {t:TypeId} {y:Ty}
theorem CRep.one (h:HRep C w η F hp) {x:AV} {u:Value} (hx:CRep w F η hp x u) (hn:x≠ .any):u.oneCell'=true:=by
 cases x with
 | v t=>exact Tr.oneCell hx
 | mref b=>
   simp only [CRep] at hx
   split at hx
   ·rename_i e sz f rows hb;rw [hx];exact (h.oneη b _ hb).1 e sz f rows rfl
   ·rename_i Φ hb;rw [hx];exact (h.oneη b _ hb).2 Φ rfl
   ·exact hx
 | ptr b i o=>
   simp only [CRep] at hx
   split at hx
   ·obtain ⟨g,n,c,_,rfl⟩:=hx;rfl
   ·obtain ⟨g,_,rfl⟩:=hx;rfl
   ·obtain ⟨g,q,n,c,_,rfl⟩:=hx;rfl
   ·exact hx
 | view b i o=>
   simp only [CRep] at hx
   split at hx
   ·obtain ⟨g,n,c,_,rfl⟩:=hx;rfl
   ·exact hx.elim
   ·exact hx.elim
   ·exact hx
 | tptr row o=>obtain ⟨g,p,cv,_,rfl,_⟩:=hx;rfl
 | one=>exact hx
 | any=>exact absurd rfl hn
 | clo f l=>obtain ⟨us,rfl,_⟩:=hx;rfl
theorem cells_one {u:Value} (h:u.oneCell'=true):u.cells.toList=[u]:=by
 cases u<;>first| rfl| (simp [Value.oneCell'] at h)
theorem WRep.cells (h:HRep C w η F hp) {x:WV} {u:Value} (hx:WRep w F η hp x u) (hok:x.ok=true):CsRep w F η hp x.cells u.cells.toList:=by
 cases x with
 | c a=>
   have hn:a≠ .any:=by rintro rfl;cases hok
   have h1:=CRep.one h hx hn
   rw [cells_one h1]
   refine ⟨rfl,by simpa using h1,fun i z v hz hv=>?_⟩
   cases i with
   | zero=>simp [WV.cells] at hz hv;subst hz;subst hv;exact hx
   | succ i=>simp [WV.cells] at hz
 | agg l=>obtain ⟨us,rfl,h1⟩:=hx;exact h1
theorem CsRep.putAt {l:List AV} {us:List Value} {off:Nat} {vs:List AV} {us':List Value} (h:CsRep w F η hp l us) (h':CsRep w F η hp vs us'):CsRep w F η hp (putAt l off vs) (putAt us off us'):=by
 obtain ⟨h1,h2,h3⟩:=h
 obtain ⟨h4,h5,h6⟩:=h'
 unfold Go.Proofs.YtgbkhjllbgmdcaaGreat.putAt
 refine ⟨by simp [h1,h4],fun z hz=>?_,fun i x z hx hz=>?_⟩
 ·rcases List.mem_append.1 hz with hz| hz
  ·rcases List.mem_append.1 hz with hz| hz
   ·exact h2 z (List.mem_of_mem_take hz)
   ·exact h5 z hz
  ·exact h2 z (List.mem_of_mem_drop hz)
 ·have e1:(us.take off).length=(l.take off).length:=by simp [h1]
  rcases Nat.lt_or_ge i (l.take off).length with hi| hi
  ·rw [List.append_assoc,List.getElem?_append_left hi] at hx
   rw [List.append_assoc,List.getElem?_append_left (by omega)] at hz
   rw [List.getElem?_take] at hx hz
   split at hx
   ·rw [if_pos (by assumption)] at hz;exact h3 i x z hx hz
   ·cases hx
  ·rw [List.append_assoc,List.getElem?_append_right hi] at hx
   rw [List.append_assoc,List.getElem?_append_right (by omega),e1] at hz
   rcases Nat.lt_or_ge (i- (l.take off).length) vs.length with hj| hj
   ·rw [List.getElem?_append_left hj] at hx
    rw [List.getElem?_append_left (by omega)] at hz
    exact h6 _ _ _ hx hz
   ·rw [List.getElem?_append_right hj,List.getElem?_drop] at hx
    rw [List.getElem?_append_right (by omega),List.getElem?_drop,h4] at hz
    exact h3 _ _ _ hx hz
theorem run_fieldAt {l:List (Nat × Nat × TypeId)} (hy:TyFits P t y) (hs:y.shp=.struct l) {i fo n:Nat} {ft:TypeId} (hi:l[i]?=some (fo,n,ft)) (hn:n≠0) (g p:Nat):(Instr.fieldAt t (.pointer (some ⟨g,p,none⟩)) i).run P w=.ok (.pointer (some ⟨g,p+fo,none⟩)) w:=by
 obtain ⟨fs,h1,h2⟩:=hy.struct hs
 rw [←h2,List.getElem?_map,Option.map_eq_some_iff] at hi
 obtain ⟨f,h3,h4⟩:=hi
 injection h4 with h4 h5
 injection h5 with h5 h6
 have h3':fs[i]?=some f:=by simpa using h3
 have hc:P.cellsOf f.type≠0:=by rw [h5];exact hn
 obtain ⟨ti,hti⟩:∃ti,P.info? f.type=some ti:=by
  cases hq:P.info? f.type with
  | none=>simp [Program.cellsOf,hq] at hc
  | some ti=>exact ⟨ti,rfl⟩
 have hsz:ti.size≠0:=by simpa [Program.cellsOf,hti] using hc
 simp [Instr.fieldAt,run_underlying h1,h3',Instr.sureAddr,fieldPlace,sizeOf,typeInfo,hti,hsz,addr_add,h4]
theorem ptrExec {x:Operand} {i:Nat} (ho:o.op=.fieldAddr t x i) {u v:Value} (e:a.eval x=u) (h:(Instr.fieldAt t u i).run P w=.ok v w):(execOp a.eval o).run P w=.ok (.value v) w:=by
 unfold execOp;rw [ho]
 simp only [e,Sem.run_bind,h,Result.andThen_ok]
 rfl
theorem OStep.fldBx {x:Operand} {b i off:Nat} {e:TypeId} {cells:List AV} {l:List (Nat × Nat × TypeId)} {j fo n:Nat} {ft:TypeId} (ho:o.op=.fieldAddr t x j) (hx:ev x=.w (.c (.ptr b i off))) (hy:TyFits P t y) (hs:y.shp=.struct l) (hj:l[j]?=some (fo,n,ft)) (hn:n≠0):
 OStep P o ev ⟨[(b,.bx e cells)],[],[],.w (.c (.ptr b i (off+fo)))⟩:=
 .pure fun C w η F sl hp N a hR hev hnd=>by
  have hb:hp b=some (.bx e cells):=hnd (b,.bx e cells) (by simp)
  have h1:=hR.eval x
  rw [hev x (by simp [ho,Op.operands]),hx] at h1
  simp only [SRep,WRep,CRep,hb] at h1
  obtain ⟨g,h2,h3⟩:=h1
  refine ⟨_,ptrExec ho h3 (run_fieldAt hy hs hj hn g off),?_⟩
  simp only [SRep,WRep,CRep,hb]
  exact ⟨g,h2,rfl⟩
theorem OStep.fldSl {x:Operand} {b i off:Nat} {e:TypeId} {sz:Nat} {f:Bool} {rows:List (List TV)} {l:List (Nat × Nat × TypeId)} {j fo n:Nat} {ft:TypeId} (ho:o.op=.fieldAddr t x j) (hx:ev x=.w (.c (.ptr b i off))) (hy:TyFits P t y) (hs:y.shp=.struct l) (hj:l[j]?=some (fo,n,ft)) (hn:n≠0):
 OStep P o ev ⟨[(b,.sl e sz f rows)],[],[],.w (.c (.ptr b i (off+fo)))⟩:=
 .pure fun C w η F sl hp N a hR hev hnd=>by
  have hb:hp b=some (.sl e sz f rows):=hnd (b,.sl e sz f rows) (by simp)
  have h1:=hR.eval x
  rw [hev x (by simp [ho,Op.operands]),hx] at h1
  simp only [SRep,WRep,CRep,hb] at h1
  obtain ⟨g,m,c,h2,h3⟩:=h1
  refine ⟨_,ptrExec ho h3 (run_fieldAt hy hs hj hn g _),?_⟩
  simp only [SRep,WRep,CRep,hb]
  exact ⟨g,m,c,h2,by rw [Nat.add_assoc]⟩
theorem OStep.fldGh {x:Operand} {b i off:Nat} {Φ:World→Value→Prop} {l:List (Nat × Nat × TypeId)} {j fo n:Nat} {ft:TypeId} (ho:o.op=.fieldAddr t x j) (hx:ev x=.w (.c (.ptr b i off))) (hy:TyFits P t y) (hs:y.shp=.struct l) (hj:l[j]?=some (fo,n,ft)) (hn:n≠0):
 OStep P o ev ⟨[(b,.gh Φ)],[],[],.w (.c (.ptr b i (off+fo)))⟩:=
 .pure fun C w η F sl hp N a hR hev hnd=>by
  have hb:hp b=some (.gh Φ):=hnd (b,.gh Φ) (by simp)
  have h1:=hR.eval x
  rw [hev x (by simp [ho,Op.operands]),hx] at h1
  simp only [SRep,WRep,CRep,hb] at h1
  obtain ⟨g,q,m,c,h2,h3⟩:=h1
  refine ⟨_,ptrExec ho h3 (run_fieldAt hy hs hj hn g _),?_⟩
  simp only [SRep,WRep,CRep,hb]
  exact ⟨g,q,m,c,h2,by rw [Nat.add_assoc,Nat.add_assoc]⟩
theorem OStep.fldT {x:Operand} {row:List TV} {off:Nat} {l:List (Nat × Nat × TypeId)} {j fo n:Nat} {ft:TypeId} (ho:o.op=.fieldAddr t x j) (hx:ev x=.w (.c (.tptr row off))) (hy:TyFits P t y) (hs:y.shp=.struct l) (hj:l[j]?=some (fo,n,ft)) (hn:n≠0):
 OStep P o ev ⟨[],[],[],.w (.c (.tptr row (off+fo)))⟩:=
 .pure fun C w η F sl hp N a hR hev hnd=>by
  have h1:=hR.eval x
  rw [hev x (by simp [ho,Op.operands]),hx] at h1
  obtain ⟨g,p,cv,h2,h3,h4⟩:=h1
  exact ⟨_,ptrExec ho h3 (run_fieldAt hy hs hj hn g _),g,p,cv,h2,by rw [Nat.add_assoc],h4⟩
theorem OStep.idxA {x z:Operand} {b i off:Nat} {e:TypeId} {cells:List AV} {k:IntKind} {n m:Nat} {et:TypeId} {ye:Ty} (ho:o.op=.indexAddr t x z) (hx:ev x=.w (.c (.ptr b i off))) (hz:ev z=iS k (n:Int)) (hy:TyFits P t y) (hs:y.shp=.array m et) (hye:TyFits P et ye) (hn:n<m):
 OStep P o ev ⟨[(b,.bx e cells)],[],[],.w (.c (.ptr b i (off+n*ye.size)))⟩:=
 .pure fun C w η F sl hp N a hR hev hnd=>by
  have hb:hp b=some (.bx e cells):=hnd (b,.bx e cells) (by simp)
  have h1:=hR.eval x
  have h5:=hR.int ((hev z (by simp [ho,Op.operands])).trans hz)
  rw [hev x (by simp [ho,Op.operands]),hx] at h1
  simp only [SRep,WRep,CRep,hb] at h1
  obtain ⟨g,h2,h3⟩:=h1
  refine ⟨.pointer (some ⟨g,off+n*ye.size,none⟩),?_,?_⟩
  ·unfold execOp;rw [ho]
   simp [Instr.indexAt,h3,h5,asIntOf,run_underlying (hy.array hs),hye.run_size,hn,addr_add,Instr.sureAddr]
  ·simp only [SRep,WRep,CRep,hb]
   exact ⟨g,h2,rfl⟩
theorem OStep.nilPtr {x:Operand} {b i off:Nat} {k:Blk} (ho:o.op=.nilCheck x) (hx:ev x=.w (.c (.ptr b i off))):OStep P o ev ⟨[(b,k)],[],[],.w (.c (.ptr b i off))⟩:=
 .pure fun C w η F sl hp N a hR hev hnd=>by
  have hb:hp b=some k:=hnd (b,k) (by simp)
  have h1:=hR.eval x
  rw [hev x (by simp [ho,Op.operands]),hx] at h1
  refine ⟨a.eval x,?_,h1⟩
  simp only [SRep,WRep,CRep,hb] at h1
  unfold execOp;rw [ho]
  cases k with
  | sl e sz f rows=>obtain ⟨g,m,c,h2,h3⟩:=h1;simp [h3]
  | bx e cells=>obtain ⟨g,h2,h3⟩:=h1;simp [h3]
  | gh Φ=>obtain ⟨g,q,m,c,h2,h3⟩:=h1;simp [h3]
theorem OStep.nilTptr {x:Operand} {row:List TV} {off:Nat} (ho:o.op=.nilCheck x) (hx:ev x=.w (.c (.tptr row off))):OStep P o ev ⟨[],[],[],.w (.c (.tptr row off))⟩:=
 .pure fun C w η F sl hp N a hR hev hnd=>by
  have h1:=hR.eval x
  rw [hev x (by simp [ho,Op.operands]),hx] at h1
  refine ⟨a.eval x,?_,h1⟩
  obtain ⟨g,p,cv,h2,h3,h4⟩:=h1
  unfold execOp;rw [ho]
  simp [h3]
theorem csRep_new {hp':Hp} {w':World} {η':Nat→Value} {l:List AV} {us:List Value} (hH:HRep C w η F hp) (h:CsRep w F η hp l us) (hFc:∀g,F g→w'.heap[g]?=w.heap[g]?) (hst:∀c,l.any (AV.ment c)=true→Stays η η' hp hp' c):CsRep w' F η' hp' l us:=
 h.keep (fun _ h=>h) (fun g hg=>hFc g hg) hH.oneη hst
theorem newBx (hR:Reps C w η F sl hp N a) {b:Nat} {e:TypeId} {cells:List AV} {us:List Value} (hcs:CsRep w F η hp cells us) (hn:hp b=none) (hu:UnmentB hp b) (hus:UnmentS sl b) (hbs:C.bs.length≤b) (hm:cells.any (AV.ment b)=false):
 ∃w' η',w'=w.alloc (.cells us.toArray e)∧HRep C w' η' F (hpSet hp b (some (.bx e cells)))∧(∀g,F g→w'.heap[g]?=w.heap[g]?)∧(∀c,UnmentS sl c∨Stays η η' hp (hpSet hp b (some (.bx e cells))) c)∧
  η' b=.slice (some ⟨w.heap.size,0,none⟩) 1 1:=by
 have hold:∀g,g<w.heap.size→(w.alloc (.cells us.toArray e)).heap[g]?=w.heap[g]?:=fun g hg=>heap_alloc_old w _ hg
 have hst:∀c,c≠b→Stays η (ηSet η b (.slice (some ⟨w.heap.size,0,none⟩) 1 1)) hp (hpSet hp b (some (.bx e cells))) c:=fun c hc=>Stays.of_same (hpSet_other hc) (ηSet_other hc)
 have hFc:∀g,F g→(w.alloc (.cells us.toArray e)).heap[g]?=w.heap[g]?:=fun g hg=>hold g (hR.heap.Flt g hg)
 refine ⟨_,ηSet η b (.slice (some ⟨w.heap.size,0,none⟩) 1 1),rfl,?_,hFc,fun c=>?_,ηSet_same _ _ _⟩
 ·refine hR.heap.new hold (by simp) rfl rfl rfl hn hu hbs (fun g hg=>by simp only [Own,Value.ownBlock,Option.some.injEq] at hg;omega) rfl ⟨w.heap.size,us,ηSet_same _ _ _,heap_alloc_new w _,?_⟩
  exact csRep_new hR.heap hcs hFc fun c hc=>hst c (by rintro rfl;rw [hm] at hc;cases hc)
 ·by_cases hc:c=b
  ·subst hc;exact .inl hus
  ·exact .inr (hst c hc)
theorem OStep.box {x:Operand} {b:Nat} {v:WV} (ho:o.op=.box t x) (hx:ev x=.w v) (hok:v.ok=true) (hm:v.cells.any (AV.ment b)=false):OStep P o ev ⟨[],[b],[(b,some (.bx t v.cells))],.w (.c (.ptr b 0 0))⟩:=
 .heap fun C w η F sl hp N a hR hev hnd hnew=>by
  obtain ⟨hn,hu,hus,hbs⟩:=hnew b (by simp)
  have h1:=hR.eval x
  rw [hev x (by simp [ho,Op.operands]),hx] at h1
  have h2:=WRep.cells hR.heap h1 hok
  obtain ⟨w',η',hw,h3,h4,h5,h6⟩:=newBx (e:=t) hR h2 hn hu hus hbs hm
  refine ⟨.pointer (some ⟨w.heap.size,0,none⟩),w',η',F,.inl ?_,h3,fun _ h=>h,h4,h5,?_⟩
  ·unfold execOp;rw [ho,hw]
   simp [Instr.box,newVar,newRow]
  ·simp only [SRep,WRep,CRep,hpUpd,hpSet_same]
   exact ⟨w.heap.size,h6,rfl⟩
theorem OStep.alloc {b:Nat} (ho:o.op=.alloc t) (hy:TyFits P t y) (hz:y.zero≠[]):OStep P o ev ⟨[],[b],[(b,some (.bx t (y.zero.map .v)))],.w (.c (.ptr b 0 0))⟩:=
 .heap fun C w η F sl hp N a hR hev hnd hnew=>by
  obtain ⟨hn,hu,hus,hbs⟩:=hnew b (by simp)
  obtain ⟨⟨z,h1,h2⟩,h3⟩:=hy.zero (w:=w) hz
  have hcs:CsRep w F η hp (y.zero.map .v) z.cells.toList:=by
   rw [h2]
   refine csRep_closed (by simp) fun j x u hx hu=>?_
   rw [List.getElem?_map,hx] at hu
   simp only [Option.map_some,Option.some.injEq] at hu
   subst hu
   exact Tr.val0 (h3 x (List.mem_of_getElem? hx))
  have hm:(y.zero.map AV.v).any (AV.ment b)=false:=by rw [List.any_map];simp [AV.ment]
  obtain ⟨w',η',hw,h4,h5,h6,h7⟩:=newBx (e:=t) hR hcs hn hu hus hbs hm
  refine ⟨.pointer (some ⟨w.heap.size,0,none⟩),w',η',F,.inl ?_,h4,fun _ h=>h,h5,h6,?_⟩
  ·unfold execOp;rw [ho,hw]
   simp [Instr.alloc,h1,newVar,newRow]
  ·simp only [SRep,WRep,CRep,hpUpd,hpSet_same]
   exact ⟨w.heap.size,h7,rfl⟩
theorem run_storeAt (hy:TyFits P t y) {g p:Nat} {v:Value} {cur:List Value} {e:TypeId} (hg:w.heap[g]?=some (.cells cur.toArray e (0,0))) (hv:v.cells.size=y.size) (hle:p+y.size≤cur.length) (h1:∀u∈v.cells.toList,u.oneCell'=true):
 (Instr.storeAt t (.pointer (some ⟨g,p,none⟩)) v).run P w=.ok () (w.setRow g (putAt cur p v.cells.toList).toArray):=by
 have:=run_storeCells_at P g p e v.cells.toList 0 cur.toArray w hg (by simp;omega) h1
 simp only [Nat.add_zero] at this
 unfold Instr.storeAt
 simp only [Instr.sureAddr,Sem.run_bind,Sem.run_pure,Result.andThen_ok,storeVar,hy.run_size]
 rw [if_neg (by simp [hv])]
 exact this
theorem OStep.storeBx {x z:Operand} {b i off:Nat} {e:TypeId} {cells:List AV} {v:WV} (ho:o.op=.store t x z) (hx:ev x=.w (.c (.ptr b i off))) (hz:ev z=.w v) (hy:TyFits P t y) (hok:v.ok=true) (hl:v.cells.length=y.size) (hle:off+y.size≤cells.length):
 OStep P o ev ⟨[(b,.bx e cells)],[],[(b,some (.bx e (putAt cells off v.cells)))],SV.any⟩:=
 .heap fun C w η F sl hp N a hR hev hnd hnew=>by
  have hb:hp b=some (.bx e cells):=hnd (b,.bx e cells) (by simp)
  have h1:=hR.eval x
  rw [hev x (by simp [ho,Op.operands]),hx] at h1
  simp only [SRep,WRep,CRep,hb] at h1
  obtain ⟨g,h2,h3⟩:=h1
  have h4:=hR.eval z
  rw [hev z (by simp [ho,Op.operands]),hz] at h4
  have h5:=WRep.cells hR.heap h4 hok
  obtain ⟨g',cs,h6,h7,h8⟩:=hR.heap.blocks b _ hb
  rw [h2] at h6
  injection h6 with h6
  injection h6 with h6
  injection h6 with h6
  subst h6
  have hrun:=run_storeAt (P:=P) (w:=w) hy (g:=g) (p:=off) h7 (v:=a.eval z) (by have:=h5.1;simpa [hl] using this) (by rw [h8.1];exact hle) h5.2.1
  have hst:∀c,Stays η η hp (hpSet hp b (some (.bx e (putAt cells off v.cells)))) c:=fun c=>by
   by_cases hc:c=b
   ·subst hc;exact .inr (.inr (.inl ⟨e,cells,_,hb,hpSet_same _ _ _,rfl⟩))
   ·exact Stays.of_same (hpSet_other hc) rfl
  have hgF:¬F g:=hR.heap.liveF b _ g hb rfl (by rw [h2];exact rfl)
  have hFc:∀g',F g'→(w.setRow g (putAt cs off (a.eval z).cells.toList).toArray).heap[g']?=w.heap[g']?:=fun g' hg'=>setRow_other w g g' _ (by rintro rfl;exact hgF hg')
  refine ⟨undef,_,η,F,.inr ⟨?_,rfl⟩,?_,fun _ h=>h,hFc,fun c=> .inr (hst c),SRep.any _ _ _ _ _⟩
  ·unfold execOp;rw [ho]
   simp only [h3,Sem.run_bind,hrun,Result.andThen_ok]
   rfl
  ·refine hR.heap.write (g0:=g) hb rfl rfl (by rw [h2];rfl) (hst b) (fun e' c' _=>⟨_,_,rfl⟩) (fun g' hg'=>setRow_other w g g' _ hg') (by simp) rfl rfl rfl ⟨g,putAt cs off (a.eval z).cells.toList,h2,setRow_heap w g _ _ _ _ h7,?_⟩
   exact csRep_new hR.heap (h8.putAt h5) hFc fun c _=>hst c
end
end Go.Proofs.YtgbkhjllbgmdcaaGreat
namespace Go.Proofs.YtgbkhjllbgmdcaaGreat
open Go.RowKit
section
variable {P:Program} {C:Ctx} {w:World} {η:Nat→Value} {F:Nat→Prop} {sl:Sl} {hp:Hp} {N:Nat} {a:Act} {o:Oper} {ev:Operand→SV} {t:TypeId} {y:Ty}
theorem BRep.tree {b:Nat} {e:TypeId} {sz:Nat} {f:Bool} {rows:List (List TV)} (h:BRep w F η hp b (.sl e sz f rows)) (hF:∀g,(η b).ownBlock=some g→F g):Tr w F (.tree rows) (η b):=by
 obtain ⟨cells,h1,h2,h3⟩:=h
 rcases h1.2 with ⟨e1,e2⟩| ⟨g,cap,cur,e1,e2,e3,e4,e5,e6,e7⟩
 ·have:rows=[]:=List.eq_nil_of_length_eq_zero e2
  subst this
  rw [e1]
  exact .empty none 0 (by simp [maxLen])
 ·rw [e1]
  have hcl:=h1.cells (g:=g) (by rw [e1];rfl)
  refine .tree rows g 0 sz cap (fun i j=>cells.getD (i*sz+j) undef) e4 e5 h2 (hF g (by rw [e1];rfl)) (fun i j row x hi hj=>?_) (fun i j row x hi hj=>?_)
  ·obtain ⟨u,h5,h6⟩:=h3 i j row x hi hj
   have:=hcl _ _ h5
   rw [addr_add] at this
   rw [this,List.getD_eq_getElem?_getD,h5]
   rfl
  ·obtain ⟨u,h5,h6⟩:=h3 i j row x hi hj
   rw [List.getD_eq_getElem?_getD,h5]
   exact h6
theorem row_lt {rows:List (List TV)} {sz i:Nat} (h:i<rows.length):i*sz+sz≤rows.length*sz:=by
 calc i*sz+sz=(i+1)*sz:=by rw [Nat.add_mul,Nat.one_mul]
  _≤_:=Nat.mul_le_mul_right _ h
theorem row_split {sz i i' j j':Nat} (h:i*sz+j=i'*sz+j') (hj:j<sz) (hj':j'<sz):i=i'∧j=j':=by
 rcases Nat.lt_trichotomy i i' with hh| hh| hh
 ·have:i*sz+sz≤i'*sz:=by calc i*sz+sz=(i+1)*sz:=by rw [Nat.add_mul,Nat.one_mul]
   _≤_:=Nat.mul_le_mul_right _ hh
  omega
 ·subst hh;omega
 ·have:i'*sz+sz≤i*sz:=by calc i'*sz+sz=(i'+1)*sz:=by rw [Nat.add_mul,Nat.one_mul]
   _≤_:=Nat.mul_le_mul_right _ hh
  omega
theorem putAt_length {α:Type} {l:List α} {o:Nat} {vs:List α} (h:o+vs.length≤l.length):(putAt l o vs).length=l.length:=by
 unfold putAt;simp;omega
theorem putAt_getElem? {α:Type} {l:List α} {o:Nat} {vs:List α} (h:o+vs.length≤l.length) (j:Nat):(putAt l o vs)[j]?=if o≤j∧j<o+vs.length then vs[j- o]? else l[j]?:=by
 unfold putAt
 have e1:(l.take o).length=o:=by simp;omega
 rw [List.append_assoc]
 rcases Nat.lt_or_ge j o with hj| hj
 ·rw [List.getElem?_append_left (by omega),List.getElem?_take,if_pos hj,if_neg (by omega)]
 ·rw [List.getElem?_append_right (by omega),e1]
  rcases Nat.lt_or_ge (j- o) vs.length with hk| hk
  ·rw [List.getElem?_append_left hk,if_pos (by omega)]
  ·rw [List.getElem?_append_right hk,List.getElem?_drop,if_neg (by omega)]
   congr 1
   omega
theorem storeSl_core (h:HRep C w η F hp) {b:Nat} {e:TypeId} {sz:Nat} {rows:List (List TV)} (hb:hp b=some (.sl e sz false rows)) {i off:Nat} {row:List TV} (hi:rows[i]?=some row) {vs:List TV} {us:List Value} (hl:us.length=vs.length) (hus:∀(j:Nat) (x:TV) (u:Value),vs[j]?=some x→us[j]?=some u→Tr w F x u)
 (hy:TyFits P t y) (hsz:vs.length=y.size) (hle:off+vs.length≤row.length) {v:Value} (hv:v.cells.toList=us) {p:Value} (hp':CRep w F η hp (.ptr b i off) p):
 ∃w',(Instr.storeAt t p v).run P w=.ok () w'∧HRep C w' η F (hpSet hp b (some (.sl e sz false (rows.set i (putAt row off vs)))))∧(∀g,F g→w'.heap[g]?=w.heap[g]?):=by
 simp only [CRep,hb] at hp'
 obtain ⟨g,n,c,h1,rfl⟩:=hp'
 obtain ⟨cells,h2,h3,h4⟩:=h.blocks b _ hb
 have hrl:row.length=sz:=h3 row (List.mem_of_getElem? hi)
 have hlt:i<rows.length:=(List.getElem?_eq_some_iff.1 hi).1
 rcases h2.2 with ⟨e1,e2⟩| ⟨g',cap,cur,e1,e2,e3,e4,e5,e6,e7⟩
 ·omega
 ·rw [h1] at e1
  injection e1 with e1 e8 e9
  injection e1 with e1
  injection e1 with e1
  subst e1
  have hbound:=row_lt (sz:=sz) hlt
  have hcl:cells.length=rows.length*sz:=h2.1
  have hcap:rows.length*sz≤cap*sz:=Nat.mul_le_mul_right _ e4
  have hone:∀u∈v.cells.toList,u.oneCell'=true:=fun u hu=>by
   rw [hv] at hu
   obtain ⟨j,hj⟩:=List.mem_iff_getElem?.1 hu
   have hjl:j<vs.length:=by rw [←hl];exact (List.getElem?_eq_some_iff.1 hj).1
   exact (hus j _ u (List.getElem?_eq_getElem hjl) hj).oneCell
  have hvl:v.cells.toList.length=vs.length:=by rw [hv,hl]
  have hrun:=run_storeAt (P:=P) (w:=w) hy (g:=g) (p:=i*sz+off) (v:=v) (cur:=cur.toList) (e:=e) (by simpa using e3) (by rw [←hsz,←hvl];simp) (by rw [←hsz];simp;omega) hone
  have hvz:v.cells.size=vs.length:=by simpa using hvl
  have hcurl:cur.toList.length=cap*sz:=by simpa using e6
  have hA:i*sz+off+v.cells.toList.length≤cur.toList.length:=by omega
  have hB:i*sz+off+v.cells.toList.length≤cells.length:=by omega
  have hgF:¬F g:=h.liveF b _ g hb rfl (by rw [h1];exact rfl)
  refine ⟨_,hrun,?_,fun g' hg'=>setRow_other w g g' _ (by rintro rfl;exact hgF hg')⟩
  have hFc:∀g',F g'→(w.setRow g (putAt cur.toList (i*sz+off) v.cells.toList).toArray).heap[g']?=w.heap[g']?:=fun g' hg'=>setRow_other w g g' _ (by rintro rfl;exact hgF hg')
  have hkeepTr:∀{x:TV} {u:Value},Tr w F x u→Tr (w.setRow g (putAt cur.toList (i*sz+off) v.cells.toList).toArray) F x u:=fun hx=>hx.keep (fun _ h=>h) fun g hg=>hFc g hg
  refine h.write (g0:=g) hb rfl rfl (by rw [h1];rfl) (.inr (.inl ⟨e,sz,false,rows,false,_,hb,hpSet_same _ _ _,rfl⟩)) (fun _ _ hk=>by cases hk) (fun g' hg'=>setRow_other w g g' _ hg') (by simp) rfl rfl rfl ?_
  refine ⟨putAt cells (i*sz+off) v.cells.toList,⟨?_,.inr ⟨g,cap,(putAt cur.toList (i*sz+off) v.cells.toList).toArray,?_,Nat.zero_le _,setRow_heap w g cur _ e _ e3,?_,e5,?_,?_⟩⟩,?_,?_⟩
  ·rw [putAt_length hB,List.length_set];exact h2.1
  ·rw [h1,e8,e9,List.length_set]
  ·rw [List.length_set];exact e4
  ·rw [List.size_toArray,putAt_length hA];exact hcurl
  ·rw [List.length_set]
   apply List.ext_getElem?
   intro j
   rw [List.getElem?_take,putAt_getElem? hA,putAt_getElem? hB,←e7]
   by_cases hj:j<rows.length*sz
   ·rw [if_pos hj,List.getElem?_take,if_pos hj]
   ·rw [if_neg hj,if_neg (by omega),List.getElem?_take,if_neg hj]
  ·intro r hr
   rcases List.mem_or_eq_of_mem_set hr with hr| rfl
   ·exact h3 r hr
   ·rw [putAt_length hle];exact hrl
  ·intro i' j r x hi' hj
   rw [List.getElem?_set] at hi'
   have hj2:j<sz:=by
    have:=(List.getElem?_eq_some_iff.1 hj).1
    by_cases hii:i=i'
    ·rw [if_pos hii,if_pos hlt] at hi'
     injection hi' with hi'
     subst hi'
     rw [putAt_length hle] at this;omega
    ·rw [if_neg hii] at hi'
     rw [h3 r (List.mem_of_getElem? hi')] at this;exact this
   rw [putAt_getElem? hB]
   split at hi'
   ·rename_i hii
    subst hii
    injection hi' with hi'
    subst hi'
    rw [putAt_getElem? hle] at hj
    split at hj
    ·rename_i hjr
     rw [if_pos (by omega)]
     have hjl:j- off<us.length:=by omega
     refine ⟨us[j- off],?_,hkeepTr (hus (j- off) x _ hj (List.getElem?_eq_getElem hjl))⟩
     rw [hv,←List.getElem?_eq_getElem hjl]
     congr 1
     omega
    ·rename_i hjr
     rw [if_neg (by omega)]
     obtain ⟨u,h5,h6⟩:=h4 i j row x hi hj
     exact ⟨u,h5,hkeepTr h6⟩
   ·rename_i hii
    have hne:¬(i*sz+off≤i'*sz+j∧i'*sz+j<i*sz+off+v.cells.toList.length):=by
     rintro ⟨q1,q2⟩
     have:i=i':=by
      have hk:i'*sz+j=i*sz+(i'*sz+j- i*sz):=by omega
      exact ((row_split hk hj2 (by omega)).1).symm
     exact hii this
    rw [if_neg hne]
    obtain ⟨u,h5,h6⟩:=h4 i' j r x hi' hj
    exact ⟨u,h5,hkeepTr h6⟩
def closedL:List AV→Option (List TV)
 | []=>some []
 | .v x::r=>(closedL r).map (x::·)
 | _=>none
def WV.closed:WV→Option (List TV)
 | .c (.v x)=>some [x]
 | .c _=>none
 | .agg l=>closedL l
theorem mapM_closed {l:List AV} {vs:List TV} (h:closedL l=some vs):l=vs.map .v:=by
 induction l generalizing vs with
 | nil=>simp [closedL] at h;subst h;rfl
 | cons x l ih=>
   cases x with
   | v x=>
     simp only [closedL,Option.map_eq_some_iff] at h
     obtain ⟨vs',h1,rfl⟩:=h
     rw [List.map_cons,←ih h1]
   | _=>simp [closedL] at h
theorem closed_cells {x:WV} {vs:List TV} (h:x.closed=some vs):x.cells=vs.map .v∧x.ok=true:=by
 cases x with
 | c a=>
   cases a<;>simp [WV.closed] at h
   subst h
   exact ⟨rfl,rfl⟩
 | agg l=>exact ⟨mapM_closed h,rfl⟩
theorem OStep.storeSl {x z:Operand} {b i off:Nat} {e:TypeId} {sz:Nat} {rows:List (List TV)} {row:List TV} {v:WV} {vs:List TV} (ho:o.op=.store t x z) (hx:ev x=.w (.c (.ptr b i off))) (hz:ev z=.w v) (hy:TyFits P t y) (hv:v.closed=some vs) (hi:rows[i]?=some row) (hl:vs.length=y.size) (hle:off+vs.length≤row.length):
 OStep P o ev ⟨[(b,.sl e sz false rows)],[],[(b,some (.sl e sz false (rows.set i (putAt row off vs))))],SV.any⟩:=
 .heap fun C w η F sl hp N a hR hev hnd hnew=>by
  have hb:hp b=some (.sl e sz false rows):=hnd (b,.sl e sz false rows) (by simp)
  have h1:=hR.eval x
  rw [hev x (by simp [ho,Op.operands]),hx] at h1
  have h4:=hR.eval z
  rw [hev z (by simp [ho,Op.operands]),hz] at h4
  obtain ⟨hc,hok⟩:=closed_cells hv
  have h5:=WRep.cells hR.heap h4 hok
  rw [hc] at h5
  obtain ⟨w',h6,h7,h8⟩:=storeSl_core hR.heap hb hi (us:=(a.eval z).cells.toList) (by simpa using h5.1) (fun j q u hq hu=>h5.2.2 j (.v q) u (by simp [hq]) hu) hy hl hle rfl h1
  refine ⟨undef,w',η,F,.inr ⟨?_,rfl⟩,h7,fun _ h=>h,h8,fun c=> .inr ?_,SRep.any _ _ _ _ _⟩
  ·unfold execOp;rw [ho]
   simp only [Sem.run_bind,h6,Result.andThen_ok]
   rfl
  ·by_cases hc:c=b
   ·subst hc;exact .inr (.inl ⟨e,sz,false,rows,false,_,hb,hpSet_same _ _ _,rfl⟩)
   ·exact Stays.of_same (hpSet_other hc) rfl
theorem OStep.lenT {x:Operand} {T:TypeId} {e:TypeId} {y:Ty} {rows:List (List TV)} (ho:o.op=.call {callee:=.builtin .len,args:=#[x],argTypes:=#[T]}) (hx:ev x=tS rows) (hy:TyFits P T y) (hs:y.shp=.slice e):OStep P o ev ⟨[],[],[],iS .i64 (rows.length:Int)⟩:=
 .pure fun C w η F sl hp N a hR hev _=>by
  have h1:=hR.treev ((hev x (by simp [ho,Op.operands,Call.operands])).trans hx)
  refine ⟨.int .i64 rows.length,?_,.int _ _⟩
  unfold execOp;rw [ho]
  generalize hu:a.eval x=u at h1
  cases h1<;>simp [resolve,invoke,builtin,Builtin.len_,run_underlying (hy.slice hs),hu,goInt]
theorem OStep.lenM {x:Operand} {T:TypeId} {e:TypeId} {y:Ty} {b:Nat} {e':TypeId} {sz:Nat} {f:Bool} {rows:List (List TV)} (ho:o.op=.call {callee:=.builtin .len,args:=#[x],argTypes:=#[T]}) (hx:ev x=.w (.c (.mref b))) (hy:TyFits P T y) (hs:y.shp=.slice e):OStep P o ev ⟨[(b,.sl e' sz f rows)],[],[],iS .i64 (rows.length:Int)⟩:=
 .pure fun C w η F sl hp N a hR hev hnd=>by
  have hb:hp b=some (.sl e' sz f rows):=hnd (b,.sl e' sz f rows) (by simp)
  have h1:=hR.mrefv ((hev x (by simp [ho,Op.operands,Call.operands])).trans hx) hb
  refine ⟨.int .i64 rows.length,?_,.int _ _⟩
  obtain ⟨cells,h2,_⟩:=hR.heap.blocks b _ hb
  unfold execOp;rw [ho]
  rcases h2.2 with ⟨e1,e2⟩| ⟨g,cap,cur,e1,_⟩
  ·simp [resolve,invoke,builtin,Builtin.len_,run_underlying (hy.slice hs),h1,e1,e2,goInt]
  ·simp [resolve,invoke,builtin,Builtin.len_,run_underlying (hy.slice hs),h1,e1,goInt]
theorem OStep.max2 {x z:Operand} {Ts:Array TypeId} {m n:Int} (ho:o.op=.call {callee:=.builtin .max,args:=#[x,z],argTypes:=Ts}) (hx:ev x=iS .i64 m) (hz:ev z=iS .i64 n):OStep P o ev ⟨[],[],[],iS .i64 (max m n)⟩:=
 .pure fun C w η F sl hp N a hR hev _=>by
  have h1:=hR.int ((hev x (by simp [ho,Op.operands,Call.operands])).trans hx)
  have h2:=hR.int ((hev z (by simp [ho,Op.operands,Call.operands])).trans hz)
  refine ⟨.int .i64 (max m n),?_,.int _ _⟩
  unfold execOp;rw [ho]
  have e:(if n>m then n else m)=max m n:=by split<;>omega
  simp [resolve,invoke,builtin,Builtin.max_,Builtin.max2,h1,h2,e]
theorem OStep.min2 {x z:Operand} {Ts:Array TypeId} {m n:Int} (ho:o.op=.call {callee:=.builtin .min,args:=#[x,z],argTypes:=Ts}) (hx:ev x=iS .i64 m) (hz:ev z=iS .i64 n):OStep P o ev ⟨[],[],[],iS .i64 (min m n)⟩:=
 .pure fun C w η F sl hp N a hR hev _=>by
  have h1:=hR.int ((hev x (by simp [ho,Op.operands,Call.operands])).trans hx)
  have h2:=hR.int ((hev z (by simp [ho,Op.operands,Call.operands])).trans hz)
  refine ⟨.int .i64 (min m n),?_,.int _ _⟩
  unfold execOp;rw [ho]
  have e:(if n<m then n else m)=min m n:=by split<;>omega
  simp [resolve,invoke,builtin,Builtin.min_,Builtin.min2,h1,h2,e]
end
end Go.Proofs.YtgbkhjllbgmdcaaGreat
namespace Go.Proofs.YtgbkhjllbgmdcaaGreat
open Go.RowKit
def Src (w:World) (F:Nat→Prop) (u:Value) (sz:Nat) (rows:List (List TV)) (news:List Value):Prop:=
 ∃a c,u=.slice a rows.length c∧news.length=rows.length*sz∧(∀row∈rows,row.length=sz)∧
  (∀(i j:Nat) (row:List TV) (x:TV),rows[i]?=some row→row[j]?=some x→∃v,news[i*sz+j]?=some v∧Tr w F x v)∧
  (∀v∈news,v.oneCell'=true)∧(rows=[]∨∃g o,a=some ⟨g,o,none⟩∧∀(j:Nat) (v:Value),news[j]?=some v→w.cell? ⟨g,o+j,none⟩=some v)
section
variable {P:Program} {C:Ctx} {w:World} {η:Nat→Value} {F:Nat→Prop} {sl:Sl} {hp:Hp} {N:Nat} {a:Act} {o:Oper} {ev:Operand→SV} {t:TypeId} {y:Ty}
theorem idx_div {sz k n:Nat} (hsz:0<sz) (h:k<n*sz):k / sz<n∧k % sz<sz∧k / sz*sz+k % sz=k:=
 ⟨(Nat.div_lt_iff_lt_mul hsz).2 h,Nat.mod_lt _ hsz,by rw [Nat.mul_comm];exact Nat.div_add_mod k sz⟩
theorem Src.ofTree {rows:List (List TV)} {u:Value} {sz:Nat} (h:Tr w F (.tree rows) u) (h0:0<sz) (hsz:∀row∈rows,row.length=sz):∃news,Src w F u sz rows news:=by
 cases h with
 | empty a c hm=>exact ⟨[],a,c,rfl,by simp,by simp,by simp,by simp,.inl rfl⟩
 | tree _ g o' sz' c cv hc hm hsz' hF hcell htr=>
   by_cases he:rows=[]
   ·subst he
    exact ⟨[],_,c,rfl,by simp,by simp,by simp,by simp,.inl rfl⟩
   ·have hss:sz'=sz:=by
     obtain ⟨r,hr⟩:=List.exists_mem_of_ne_nil _ he
     rw [←hsz r hr,hsz' r hr]
    subst hss
    have hnews:∀(k:Nat) (v:Value),((List.range (rows.length*sz')).map fun k=>cv (k / sz') (k % sz'))[k]?=some v→k<rows.length*sz'∧v=cv (k / sz') (k % sz'):=fun k v hv=>by
     rw [List.getElem?_map,Option.map_eq_some_iff] at hv
     obtain ⟨q,h1,h2⟩:=hv
     obtain ⟨h3,h4⟩:=List.getElem?_eq_some_iff.1 h1
     simp at h3 h4
     subst h4
     exact ⟨h3,h2.symm⟩
    refine ⟨(List.range (rows.length*sz')).map fun k=>cv (k / sz') (k % sz'),_,c,rfl,by simp,hsz',fun i j row x hi hj=>?_,fun v hv=>?_,.inr ⟨g,o',rfl,fun k v hv=>?_⟩⟩
    ·have hil:i<rows.length:=(List.getElem?_eq_some_iff.1 hi).1
     have hjl:j<sz':=by rw [←hsz' row (List.mem_of_getElem? hi)];exact (List.getElem?_eq_some_iff.1 hj).1
     have hb:=row_lt (sz:=sz') hil
     have e1:(i*sz'+j) / sz'=i:=by rw [Nat.mul_comm,Nat.mul_add_div h0,Nat.div_eq_of_lt hjl,Nat.add_zero]
     have e2:(i*sz'+j) % sz'=j:=by rw [Nat.mul_comm,Nat.mul_add_mod,Nat.mod_eq_of_lt hjl]
     refine ⟨cv i j,?_,htr i j row x hi hj⟩
     rw [List.getElem?_map,List.getElem?_range (by omega),Option.map_some,e1,e2]
    ·obtain ⟨k,hk⟩:=List.mem_iff_getElem?.1 hv
     obtain ⟨hkl,rfl⟩:=hnews k v hk
     obtain ⟨h1,h2,h3⟩:=idx_div h0 hkl
     have hr:=List.getElem?_eq_getElem h1
     have hrl:k % sz'<(rows[k / sz']).length:=by rw [hsz' _ (List.getElem_mem h1)];exact h2
     exact (htr _ _ _ _ hr (List.getElem?_eq_getElem hrl)).oneCell
    ·obtain ⟨hkl,rfl⟩:=hnews k v hv
     obtain ⟨h1,h2,h3⟩:=idx_div h0 hkl
     have hr:=List.getElem?_eq_getElem h1
     have hrl:k % sz'<(rows[k / sz']).length:=by rw [hsz' _ (List.getElem_mem h1)];exact h2
     have:=hcell _ _ _ _ hr (List.getElem?_eq_getElem hrl)
     rw [h3] at this
     exact this
theorem Src.ofBlk {b:Nat} {e:TypeId} {sz:Nat} {f:Bool} {rows:List (List TV)} (h:BRep w F η hp b (.sl e sz f rows)) (h0:0<sz):∃news,Src w F (η b) sz rows news:=by
 obtain ⟨cells,h1,h2,h3⟩:=h
 have hone:∀v∈cells,v.oneCell'=true:=fun v hv=>by
  obtain ⟨k,hk⟩:=List.mem_iff_getElem?.1 hv
  have hkl:k<rows.length*sz:=by rw [←h1.1];exact (List.getElem?_eq_some_iff.1 hk).1
  obtain ⟨q1,q2,q3⟩:=idx_div h0 hkl
  have hrl:k % sz<(rows[k / sz]).length:=by rw [h2 _ (List.getElem_mem q1)];exact q2
  obtain ⟨u,h4,h5⟩:=h3 _ _ _ _ (List.getElem?_eq_getElem q1) (List.getElem?_eq_getElem hrl)
  rw [q3,hk] at h4
  injection h4 with h4
  subst h4
  exact h5.oneCell
 rcases h1.2 with ⟨e1,e2⟩| ⟨g,cap,cur,e1,e2,e3,e4,e5,e6,e7⟩
 ·have:rows=[]:=List.eq_nil_of_length_eq_zero e2
  subst this
  exact ⟨cells,none,0,e1,by simpa using h1.1,h2,h3,hone,.inl rfl⟩
 ·have hcl:=h1.cells (g:=g) (by rw [e1];rfl)
  exact ⟨cells,_,cap,e1,h1.1,h2,h3,hone,.inr ⟨g,0,rfl,fun j v hv=>by have:=hcl j v hv;rwa [addr_add] at this⟩⟩
theorem ownsRow_zero {base:Nat} {e:TypeId} {sz n:Nat} {v:Value} {xs:List Value} (h:w.ownsRow base e sz v n xs):w.ownsRow 0 e sz v n xs:=by
 obtain ⟨h1,h2⟩:=h
 refine ⟨h1,?_⟩
 rcases h2 with h2| ⟨g,cap,cur,q1,q2,q3⟩
 ·exact .inl h2
 ·exact .inr ⟨g,cap,cur,q1,Nat.zero_le _,q3⟩
theorem append_run {e T T':TypeId} {ye yT:Ty} (hyT:TyFits P T yT) (hs:yT.shp=.slice e) (hye:TyFits P e ye) (hz:ye.zero.length=ye.size) (h0:0<ye.size) (hby:0<ye.bytes)
 {v:Value} {n:Nat} {xs:List Value} (hown:w.ownsRow 0 e ye.size v n xs) {u:Value} {rows:List (List TV)} {news:List Value} (hu:Src w F u ye.size rows news) (hb:(n+rows.length)*ye.bytes≤140737488355328):
 ∃v' w',(Builtin.append_ #[T,T] T' #[v,u]).run P w=.ok v' w'∧w'.ownsRow 0 e ye.size v' (n+rows.length) (xs++news)∧w.grownBy w' v.ownBlock∧(∀g,v'.ownBlock=some g→v.ownBlock=some g∨w.heap.size≤g):=by
 obtain ⟨ad,c,rfl,hl,_,_,h1,h2⟩:=hu
 obtain ⟨i,hi,hi1,hi2,hi3⟩:=hye.info
 obtain ⟨z,hz1,hz2,_⟩:=hi3 (by intro h;rw [h] at hz;simp at hz;omega)
 have hzs:z.cells.size=ye.size:=by
  have:=congrArg List.length hz2
  simp at this
  rw [this,hz]
 have ht:=hyT.slice hs
 cases ad with
 | none=>
   have he:rows=[]:=by
    rcases h2 with h2| ⟨g,o,h2,_⟩
    ·exact h2
    ·cases h2
   subst he
   have hn:news=[]:=List.eq_nil_of_length_eq_zero (by simpa using hl)
   subst hn
   refine ⟨v,w,?_,by simpa using hown,⟨rfl,rfl,rfl,Nat.le_refl _,fun _ _ _=>rfl⟩,fun g hg=> .inl hg⟩
   rcases hown.2 with ⟨rfl,rfl⟩| ⟨g,cap,cur,rfl,_,hg,hnc,hcm,hcs,htake⟩
   ·simp [Builtin.append_,run_underlying ht,sizeOf,typeInfo,hi,Builtin.lenOf,Builtin.firstCells]
   ·simp [Builtin.append_,run_underlying ht,sizeOf,typeInfo,hi,Builtin.lenOf,Builtin.firstCells,hnc,storeCells]
 | some ad=>
   have hnews:∀(j:Nat) (v:Value),news[j]?=some v→w.cell? (ad.add j)=some v:=fun j v hv=>by
    rcases h2 with h2| ⟨g,o,h2,h3⟩
    ·subst h2
     have hn:news=[]:=List.eq_nil_of_length_eq_zero (by simpa using hl)
     subst hn
     simp at hv
    ·injection h2 with h2
     subst h2
     rw [addr_add]
     exact h3 j v hv
   have h63:n+rows.length≤maxLen:=by
    have:(n+rows.length)*1≤(n+rows.length)*ye.bytes:=Nat.mul_le_mul_left _ hby
    simp only [maxLen]
    omega
   rcases hown.2 with ⟨e1,e2⟩| ⟨g,cap,cur,e1,e2,e3,e4,e5,e6,e7⟩
   ·have hx:xs=[]:=List.eq_nil_of_length_eq_zero (by rw [hown.1,e2];simp)
    subst e1;subst e2;subst hx
    obtain ⟨v',w',hr,ho,hg,_⟩:=run_append_own (P:=P) w w.heap.size T T' e i z ye.size ye.bytes ht hi hz1 hi1 hi2 hzs h0 _ 0 [] (World.ownsRow_nil w _ e ye.size) ad rows.length c news hl hnews h1 h63 hb (Nat.le_refl _)
    exact ⟨v',w',hr,ownsRow_zero ho,hg,fun g hg'=> .inr (ho.lt g hg').1⟩
   ·subst e1
    obtain ⟨v',w',hr,ho,hg,_⟩:=run_append_own (P:=P) w 0 T T' e i z ye.size ye.bytes ht hi hz1 hi1 hi2 hzs h0 _ n xs hown ad rows.length c news hl hnews h1 h63 hb (Nat.zero_le _)
    refine ⟨v',w',hr,ho,hg,fun g' hg'=>?_⟩
    by_cases hroom:n+rows.length≤cap
    ·have hr2:=run_append_room (P:=P) w T T' e i ht hi g n cap cur e3 ad rows.length c news (by rw [hl,hi1]) hnews h1 hroom (by rw [hl,e6,hi1,←Nat.add_mul];exact Nat.mul_le_mul_right _ hroom)
     rw [hr] at hr2
     injection hr2 with hr2 _
     subst hr2
     exact .inl hg'
    ·have hcl:=hown.cells (g:=g) rfl
     have hr2:=run_append_grow (P:=P) w T T' e i z ht hi hz1 ⟨g,0,none⟩ n cap xs (by rw [hown.1,hi1]) hcl ad rows.length c news (by rw [hl,hi1]) hnews (by omega) (by simp only [maxLen] at h63;omega) (growslice_fits (by omega) (by rw [hi2];exact hb))
     rw [hr] at hr2
     injection hr2 with hr2 _
     subst hr2
     simp only [Value.ownBlock,Option.some.injEq] at hg'
     exact .inr (by omega)
theorem brep_append {η':Nat→Value} {hp':Hp} {w':World} {nb:Nat} {e:TypeId} {sz:Nat} {f:Bool} {rows rows':List (List TV)} {xs news:List Value} {v':Value} (hη:η' nb=v') (hFc:∀g,F g→w'.heap[g]?=w.heap[g]?)
 (hsz:∀row∈rows,row.length=sz) (htr:∀(i j:Nat) (row:List TV) (x:TV),rows[i]?=some row→row[j]?=some x→∃u,xs[i*sz+j]?=some u∧Tr w F x u) (hxl:xs.length=rows.length*sz)
 (hsz':∀row∈rows',row.length=sz) (htr':∀(i j:Nat) (row:List TV) (x:TV),rows'[i]?=some row→row[j]?=some x→∃u,news[i*sz+j]?=some u∧Tr w F x u)
 (ho:w'.ownsRow 0 e sz v' (rows.length+rows'.length) (xs++news)):BRep w' F η' hp' nb (.sl e sz f (rows++rows')):=by
 refine ⟨xs++news,by rw [hη,List.length_append];exact ho,fun r hr=>?_,fun i j row x hi hj=>?_⟩
 ·rcases List.mem_append.1 hr with hr| hr
  ·exact hsz r hr
  ·exact hsz' r hr
 ·have hkeep:∀{x:TV} {u:Value},Tr w F x u→Tr w' F x u:=fun hx=>hx.keep (fun _ h=>h) fun g hg=>hFc g hg
  rcases Nat.lt_or_ge i rows.length with hlt| hge
  ·rw [List.getElem?_append_left hlt] at hi
   obtain ⟨u,h1,h2⟩:=htr i j row x hi hj
   exact ⟨u,by rw [List.getElem?_append_left (by exact (List.getElem?_eq_some_iff.1 h1).1)];exact h1,hkeep h2⟩
  ·rw [List.getElem?_append_right hge] at hi
   obtain ⟨u,h1,h2⟩:=htr' _ j row x hi hj
   have hm:rows.length*sz≤i*sz:=Nat.mul_le_mul_right _ hge
   refine ⟨u,?_,hkeep h2⟩
   rw [List.getElem?_append_right (by rw [hxl];omega),hxl]
   rw [show i*sz+j- rows.length*sz=(i- rows.length)*sz+j by rw [Nat.sub_mul];omega]
   exact h1
theorem append_old (hR:Reps C w η F sl hp N a) {e:TypeId} {sz:Nat} {b nb:Nat} {rows rs:List (List TV)} {w':World} {v':Value}
 (hb:hp b=some (.sl e sz false rows)) (hn:hp nb=none) (hu:UnmentB hp nb) (hus:UnmentS sl nb) (hbs:C.bs.length≤nb)
 (hg:w.grownBy w' (η b).ownBlock) (hnew:∀g,v'.ownBlock=some g→(η b).ownBlock=some g∨w.heap.size≤g)
 (hbr:(∀g,F g→w'.heap[g]?=w.heap[g]?)→BRep w' F (ηSet η nb v') (hpSet (hpSet hp b none) nb (some (.sl e sz false rs))) nb (.sl e sz false rs)):
 HRep C w' (ηSet η nb v') F (hpSet (hpSet hp b none) nb (some (.sl e sz false rs)))∧(∀g,F g→w'.heap[g]?=w.heap[g]?)∧(∀c,UnmentS sl c∨Stays η (ηSet η nb v') hp (hpSet (hpSet hp b none) nb (some (.sl e sz false rs))) c):=by
 have h:=hR.heap
 have hnb:nb≠b:=by rintro rfl;rw [hb] at hn;cases hn
 have hFc:∀g,F g→w'.heap[g]?=w.heap[g]?:=fun g hgF=>hg.block g (h.Flt g hgF) (fun e=>h.liveF b _ g hb rfl (own_of_block e.symm) hgF)
 have hnew:∀g,Own v' g→Own (η b) g∨w.heap.size≤g:=fun g hgo=>by
  obtain ⟨cells,h1,_⟩:=hbr hFc
  rw [ηSet_same] at h1
  exact (hnew g ((own_block h1).1 hgo)).imp own_of_block id
 have hst:∀c,c≠nb→Stays η (ηSet η nb v') hp (hpSet (hpSet hp b none) nb (some (.sl e sz false rs))) c:=fun c hc=>by
  by_cases hcb:c=b
  ·subst hcb;exact .inl (by rw [hpSet_other hc,hpSet_same])
  ·exact Stays.of_same (by rw [hpSet_other hc,hpSet_other hcb]) (ηSet_other hc)
 refine ⟨?_,hFc,fun c=>?_⟩
 ·refine h.step (fun c=>c=b∨c=nb) (fun c hc=>?_) (fun c k g hc hk hl hgo=>?_) hg.size (fun _ h=>h) hFc (fun c=>?_) (fun c k hc hk=>?_) (fun c c' k1 k2 g hc h1 h2 hne hl1 hl2 hgo=>?_) (fun _ _ _ _ _ _ h=> .inl h)
   (fun c k g hc hk hl hgo hF=>?_) (fun c k g hc hk hl hgo=>?_) (fun g hgF=>Nat.lt_of_lt_of_le (h.Flt g hgF) hg.size) (fun c k g hc hk hl hgo=>?_) (fun j v k hj hjg hk=>?_) ?_ h.Fbd
  ·have h1:c≠nb:=fun e=>hc (.inr e)
   have h2:c≠b:=fun e=>hc (.inl e)
   exact ⟨by rw [hpSet_other h1,hpSet_other h2],ηSet_other h1⟩
  ·have h2:c≠b:=fun e=>hc (.inl e)
   exact hg.block g (h.lt hk hgo) (fun e=>h.sep c b k _ g hk hb h2 hl rfl hgo (own_of_block e.symm))
  ·by_cases hc:c=nb
   ·subst hc;exact .inl hu
   ·exact .inr (hst c hc)
  ·rcases hc with rfl| rfl
   ·rw [hpSet_other (Ne.symm hnb),hpSet_same] at hk;cases hk
   ·rw [hpSet_same] at hk;injection hk with hk;subst hk;exact hbr hFc
  ·rcases hc with rfl| rfl
   ·rw [hpSet_other (Ne.symm hnb),hpSet_same] at h1;cases h1
   ·rw [ηSet_same] at hgo
    rw [ηSet_other (Ne.symm hne)]
    rw [hpSet_other (Ne.symm hne)] at h2
    by_cases hcb:c'=b
    ·subst hcb;rw [hpSet_same] at h2;cases h2
    ·rw [hpSet_other hcb] at h2
     intro hgo'
     rcases hnew g hgo with h3| h3
     ·exact h.sep c' b k2 _ g h2 hb hcb hl2 rfl hgo' h3
     ·have:=h.lt h2 hgo';omega
  ·rcases hc with rfl| rfl
   ·rw [hpSet_other (Ne.symm hnb),hpSet_same] at hk;cases hk
   ·rw [ηSet_same] at hgo
    rcases hnew g hgo with h3| h3
    ·exact h.liveF b _ g hb rfl h3 hF
    ·have:=h.Flt g hF;omega
  ·rcases hc with rfl| rfl
   ·rw [hpSet_other (Ne.symm hnb),hpSet_same] at hk;cases hk
   ·rw [hpSet_same] at hk;injection hk with hk;subst hk;cases hl
  ·rcases hc with rfl| rfl
   ·rw [hpSet_other (Ne.symm hnb),hpSet_same] at hk;cases hk
   ·rw [ηSet_same] at hgo
    rcases hnew g hgo with h3| h3
    ·rcases h.fresh b _ g hb rfl h3 with h4| h4
     ·exact .inl ⟨h4.1,hbs⟩
     ·exact .inr h4
    ·exact .inl ⟨Nat.le_trans h.keep.size h3,hbs⟩
  ·rcases hj with rfl| rfl
   ·rw [hpSet_other (Ne.symm hnb),hpSet_same] at hk;cases hk
   ·rw [List.getElem?_eq_none (by omega)] at hjg;cases hjg
  ·refine ⟨hg.os.trans h.keep.os,hg.tape.trans h.keep.tape,hg.output.trans h.keep.output,Nat.le_trans h.keep.size hg.size,fun k hk hkn=>(hg.block k (Nat.lt_of_lt_of_le hk h.keep.size) fun e=>?_).trans (h.keep.block k hk hkn)⟩
   rcases h.fresh b _ k hb rfl (own_of_block e.symm) with h4| h4
   ·omega
   ·exact hkn h4
 ·by_cases hc:c=nb
  ·subst hc;exact .inl hus
  ·exact .inr (hst c hc)
theorem append_new (hR:Reps C w η F sl hp N a) {nb:Nat} {k:Blk} {w':World} {v':Value} (hn:hp nb=none) (hu:UnmentB hp nb) (hus:UnmentS sl nb) (hbs:C.bs.length≤nb) (hl:k.live=true)
 (hg:w.grownBy w' none) (hnew:∀g,Own v' g→w.heap.size≤g) (hbr:(∀g,F g→w'.heap[g]?=w.heap[g]?)→BRep w' F (ηSet η nb v') (hpSet hp nb (some k)) nb k):
 HRep C w' (ηSet η nb v') F (hpSet hp nb (some k))∧(∀g,F g→w'.heap[g]?=w.heap[g]?)∧(∀c,UnmentS sl c∨Stays η (ηSet η nb v') hp (hpSet hp nb (some k)) c):=by
 have hold:∀g,g<w.heap.size→w'.heap[g]?=w.heap[g]?:=fun g hlt=>hg.block g hlt (by simp)
 have hFc:∀g,F g→w'.heap[g]?=w.heap[g]?:=fun g hgF=>hold g (hR.heap.Flt g hgF)
 refine ⟨hR.heap.new hold hg.size hg.os hg.tape hg.output hn hu hbs hnew hl (hbr hFc),hFc,fun c=>?_⟩
 by_cases hc:c=nb
 ·subst hc;exact .inl hus
 ·exact .inr (Stays.of_same (hpSet_other hc) (ηSet_other hc))
theorem appExec {x z:Operand} {T:TypeId} (ho:o.op=.call {callee:=.builtin .append,args:=#[x,z],argTypes:=#[T,T]}) {v u r:Value} {w':World} (e1:a.eval x=v) (e2:a.eval z=u) (h:(Builtin.append_ #[T,T] o.type #[v,u]).run P w=.ok r w'):(execOp a.eval o).run P w=.ok (.value r) w':=by
 unfold execOp;rw [ho]
 simp only [resolve,invoke,builtin,Sem.run_bind,Sem.run_pure,Result.andThen_ok,List.map_toArray,List.map_cons,List.map_nil,e1,e2,h]
inductive SrcOf (ev:Operand→SV) (z:Operand) (sz:Nat):List (List TV)→List (Nat × Blk)→Prop
 | tree (rows:List (List TV)) (h:ev z=tS rows) (hsz:∀row∈rows,row.length=sz):SrcOf ev z sz rows []
 | own (b:Nat) (e:TypeId) (f:Bool) (rows:List (List TV)) (h:ev z=.w (.c (.mref b))):SrcOf ev z sz rows [(b,.sl e sz f rows)]
 | nil (h:ev z=nS):SrcOf ev z sz [] []
theorem SrcOf.src {z:Operand} {sz:Nat} {rows:List (List TV)} {need:List (Nat × Blk)} (h:SrcOf ev z sz rows need) (h0:0<sz) (hR:Reps C w η F sl hp N a) (he:evalS sl z=ev z) (hn:∀p∈need,hp p.1=some p.2):∃news,Src w F (a.eval z) sz rows news:=by
 cases h with
 | tree rows h hsz=>exact Src.ofTree (hR.treev (he.trans h)) h0 hsz
 | own b e f rows h=>
   have hb:=hn (b,.sl e sz f rows) (by simp)
   rw [hR.mrefv (he.trans h) hb]
   exact Src.ofBlk (hR.heap.blocks b _ hb) h0
 | nil h=>rw [hR.nilv (he.trans h)];exact ⟨[],none,0,rfl,by simp,by simp,by simp,by simp,.inl rfl⟩
theorem OStep.appN {x z:Operand} {T e:TypeId} {yT ye:Ty} {nb:Nat} {rows:List (List TV)} {need:List (Nat × Blk)} (ho:o.op=.call {callee:=.builtin .append,args:=#[x,z],argTypes:=#[T,T]}) (hx:ev x=nS) (hyT:TyFits P T yT) (hs:yT.shp=.slice e) (hye:TyFits P e ye) (hz:ye.zero.length=ye.size) (h0:0<ye.size) (hby:0<ye.bytes)
 (hsrc:SrcOf ev z ye.size rows need) (hb:rows.length*ye.bytes≤140737488355328):OStep P o ev ⟨need,[nb],[(nb,some (.sl e ye.size false rows))],.w (.c (.mref nb))⟩:=
 .heap fun C w η F sl hp N a hR hev hnd hnew=>by
  obtain ⟨hn,hu,hus,hbs⟩:=hnew nb (by simp)
  have e1:=hR.nilv ((hev x (by simp [ho,Op.operands,Call.operands])).trans hx)
  obtain ⟨news,hS⟩:=hsrc.src h0 hR (hev z (by simp [ho,Op.operands,Call.operands])) hnd
  obtain ⟨v',w',hr,hO,hg,hnw⟩:=append_run (P:=P) (w:=w) (T':=o.type) hyT hs hye hz h0 hby (World.ownsRow_nil w 0 e ye.size) hS (by simpa using hb)
  obtain ⟨_,_,_,hl,hsz,htr,_⟩:=hS
  obtain ⟨h1,h2,h3⟩:=append_new hR (k:=.sl e ye.size false rows) (v':=v') hn hu hus hbs rfl hg (fun g hgo=>(hnw g ((own_block hO).1 hgo)).resolve_left (by simp [Value.ownBlock])) (fun hFc=>brep_append (rows:=[]) (xs:=[]) (ηSet_same _ _ _) hFc (by simp) (by simp) (by simp) hsz htr (by simpa using hO))
  refine ⟨v',w',_,F,.inl (appExec ho e1 rfl hr),h1,fun _ h=>h,h2,h3,?_⟩
  simp only [SRep,WRep,CRep,hpUpd,hpSet_same,ηSet_same]
theorem OStep.appM {x z:Operand} {T e:TypeId} {yT ye:Ty} {b nb:Nat} {rows rows':List (List TV)} {need:List (Nat × Blk)} (ho:o.op=.call {callee:=.builtin .append,args:=#[x,z],argTypes:=#[T,T]}) (hx:ev x=.w (.c (.mref b))) (hyT:TyFits P T yT) (hs:yT.shp=.slice e) (hye:TyFits P e ye) (hz:ye.zero.length=ye.size) (h0:0<ye.size) (hby:0<ye.bytes)
 (hsrc:SrcOf ev z ye.size rows' need) (hb:(rows.length+rows'.length)*ye.bytes≤140737488355328):OStep P o ev ⟨(b,.sl e ye.size false rows)::need,[nb],[(b,none),(nb,some (.sl e ye.size false (rows++rows')))],.w (.c (.mref nb))⟩:=
 .heap fun C w η F sl hp N a hR hev hnd hnew=>by
  obtain ⟨hn,hu,hus,hbs⟩:=hnew nb (by simp)
  have hbb:hp b=some (.sl e ye.size false rows):=hnd (b,.sl e ye.size false rows) (by simp)
  have e1:=hR.mrefv ((hev x (by simp [ho,Op.operands,Call.operands])).trans hx) hbb
  obtain ⟨news,hS⟩:=hsrc.src h0 hR (hev z (by simp [ho,Op.operands,Call.operands])) (fun p hp'=>hnd p (by simp [hp']))
  obtain ⟨cells,hown,hszb,htrb⟩:=hR.heap.blocks b _ hbb
  obtain ⟨v',w',hr,hO,hg,hnw⟩:=append_run (P:=P) (w:=w) (T':=o.type) hyT hs hye hz h0 hby hown hS hb
  obtain ⟨_,_,_,hl,hsz,htr,_⟩:=hS
  obtain ⟨h1,h2,h3⟩:=append_old hR (rs:=rows++rows') hbb hn hu hus hbs hg hnw (fun hFc=>brep_append (ηSet_same _ _ _) hFc hszb htrb hown.1 hsz htr hO)
  refine ⟨v',w',_,F,.inl (appExec ho e1 rfl hr),h1,fun _ h=>h,h2,h3,?_⟩
  simp only [SRep,WRep,CRep,hpUpd,hpSet_same,ηSet_same]
end
end Go.Proofs.YtgbkhjllbgmdcaaGreat
namespace Go.Proofs.YtgbkhjllbgmdcaaGreat
open Go.RowKit
section
variable {P:Program} {C:Ctx} {w:World} {η:Nat→Value} {F:Nat→Prop} {sl:Sl} {hp:Hp} {N:Nat} {a:Act} {o:Oper} {ev:Operand→SV} {t:TypeId} {y:Ty}
theorem foldl_set (cs:Array Value) (off:Nat):∀(vs:List Value) (k:Nat),off+k+vs.length≤cs.size→((vs.zipIdx k).foldl (fun cs (c,j)=>cs.setIfInBounds (off+j) c) cs).toList=putAt cs.toList (off+k) vs:=by
 intro vs
 induction vs generalizing cs with
 | nil=>intro k _;simp [putAt]
 | cons v vs ih=>
   intro k hk
   simp only [List.length_cons] at hk
   rw [List.zipIdx_cons,List.foldl_cons,ih (cs.setIfInBounds (off+k) v) (k+1) (by simp;omega)]
   apply List.ext_getElem?
   intro j
   rw [putAt_getElem? (by simp;omega),putAt_getElem? (by simp;omega),Array.toList_setIfInBounds,List.getElem?_set]
   simp only [List.length_cons]
   by_cases h1:off+k=j
   ·subst h1
    rw [if_neg (by omega),if_pos rfl,if_pos (by simp;omega),if_pos (by omega)]
    simp
   ·by_cases h2:off+(k+1)≤j∧j<off+(k+1)+vs.length
    ·rw [if_pos h2,if_pos (by omega),show j- (off+k)=(j- (off+(k+1)))+1 by omega,List.getElem?_cons_succ]
    ·rw [if_neg h2,if_neg h1,if_neg (by omega)]
def fillA (place:Nat→Option (Nat × Nat)):List AV→List (Nat × WV)→Option (List AV)
 | cells,[]=>some cells
 | cells,(i,v)::r=>match place i with
   | none=>none
   | some (off,n)=>if v.ok&&v.cells.length==n&&decide (off+n≤cells.length) then fillA place (putAt cells off v.cells) r else none
theorem run_fill (hH:HRep C w η F hp) (place:Nat→Option (Nat × Nat)):∀(parts:List (Nat × WV)) (vals:List (Nat × Value)) (cells r:List AV) (cs:Array Value),parts.length=vals.length→(∀(j:Nat) (p:Nat × WV) (q:Nat × Value),parts[j]?=some p→vals[j]?=some q→p.1=q.1∧WRep w F η hp p.2 q.2)→
 CsRep w F η hp cells cs.toList→fillA place cells parts=some r→∃cs',Instr.fill place cs vals=some cs'∧CsRep w F η hp r cs'.toList:=by
 intro parts
 induction parts with
 | nil=>
   intro vals cells r cs hl _ hcs hr
   have:vals=[]:=List.eq_nil_of_length_eq_zero hl.symm
   subst this
   simp only [fillA,Option.some.injEq] at hr
   subst hr
   exact ⟨cs,rfl,hcs⟩
 | cons p parts ih=>
   intro vals cells r cs hl hpv hcs hr
   obtain ⟨i,v⟩:=p
   cases vals with
   | nil=>simp at hl
   | cons q vals=>
     obtain ⟨h1,h2⟩:=hpv 0 (i,v) q rfl rfl
     obtain ⟨i',u⟩:=q
     dsimp only at h1 h2
     subst h1
     unfold fillA at hr
     split at hr
     ·cases hr
     ·rename_i off n hpl
      split at hr
      ·rename_i hcond
       simp only [Bool.and_eq_true,beq_iff_eq,decide_eq_true_eq] at hcond
       obtain ⟨⟨hok,hvl⟩,hle⟩:=hcond
       have hc:=WRep.cells hH h2 hok
       have hsz:u.cells.size=n:=by have:=hc.1;simp at this;omega
       have hcl:cs.size=cells.length:=by have:=hcs.1;simpa using this
       have hf:=foldl_set cs off u.cells.toList 0 (by simp;omega)
       simp only [Nat.add_zero] at hf
       have hfa:(u.cells.zipIdx.foldl (fun cs (x:Value × Nat)=>cs.setIfInBounds (off+x.2) x.1) cs).toList=putAt cs.toList off u.cells.toList:=by
        rw [←hf,←Array.foldl_toList]
        congr 2
        simp
       obtain ⟨cs',h3,h4⟩:=ih vals (putAt cells off v.cells) r (u.cells.zipIdx.foldl (fun cs (x:Value × Nat)=>cs.setIfInBounds (off+x.2) x.1) cs) (by simpa using hl)
        (fun j p q hp' hq=>hpv (j+1) p q (by simpa using hp') (by simpa using hq)) (by rw [hfa];exact hcs.putAt hc) hr
       refine ⟨cs',?_,h4⟩
       unfold Instr.fill
       simp only [hpl]
       rw [if_neg (by simp;omega)]
       exact h3
      ·cases hr
def partsA (ev:Operand→SV):List (Nat × Operand)→Option (List (Nat × WV))
 | []=>some []
 | (i,x)::r=>match ev x with
   | .w v=>(partsA ev r).map ((i,v)::·)
   | .tup _=>none
theorem partsA_rep (hR:Reps C w η F sl hp N a):∀{parts:List (Nat × Operand)} {l:List (Nat × WV)},(∀p∈parts,evalS sl p.2=ev p.2)→partsA ev parts=some l→
 l.length=(parts.map fun p=>(p.1,a.eval p.2)).length∧∀(j:Nat) (p:Nat × WV) (q:Nat × Value),l[j]?=some p→(parts.map fun p=>(p.1,a.eval p.2))[j]?=some q→p.1=q.1∧WRep w F η hp p.2 q.2:=by
 intro parts
 induction parts with
 | nil=>intro l _ h;simp [partsA] at h;subst h;simp
 | cons p parts ih=>
   intro l hev h
   obtain ⟨i,x⟩:=p
   unfold partsA at h
   split at h
   ·rename_i v hv
    rw [Option.map_eq_some_iff] at h
    obtain ⟨l',h1,rfl⟩:=h
    obtain ⟨h2,h3⟩:=ih (fun p hp'=>hev p (by simp [hp'])) h1
    refine ⟨by simpa using h2,fun j p q hp' hq=>?_⟩
    cases j with
    | zero=>
      simp at hp' hq
      subst hp';subst hq
      have:=hR.eval x
      rw [hev (i,x) (by simp),hv] at this
      exact ⟨rfl,this⟩
    | succ j=>exact h3 j p q (by simpa using hp') (by simpa using hq)
   ·cases h
def placeS (l:List (Nat × Nat × TypeId)) (i:Nat):Option (Nat × Nat):=(l[i]?).map fun x=>(x.1,x.2.1)
theorem mapM_places (l:List Field) (h:∀f∈l,∃i,P.info? f.type=some i):l.mapM (fun f=>(P.info? f.type).map fun i=>(f.offset,i.size))=some (l.map fun f=>(f.offset,P.cellsOf f.type)):=by
 induction l with
 | nil=>rfl
 | cons f l ih=>
   obtain ⟨i,hi⟩:=h f (by simp)
   rw [List.mapM_cons,ih (fun f hf=>h f (by simp [hf]))]
   simp [hi,Program.cellsOf]
theorem OStep.build {parts:List (Nat × Operand)} {lp:List (Nat × WV)} {l:List (Nat × Nat × TypeId)} {r:List AV} (ho:o.op=.build t parts.toArray) (hy:TyFits P t y) (hs:y.shp=.struct l) (hz:y.zero≠[]) (hnz:l.all (fun x=>x.2.1 !=0)=true) (hpa:partsA ev parts=some lp) (hr:fillA (placeS l) (y.zero.map .v) lp=some r):
 OStep P o ev ⟨[],[],[],.w (.agg r)⟩:=
 .pure fun C w η F sl hp N a hR hev hnd=>by
  obtain ⟨fs,h1,h2⟩:=hy.struct hs
  obtain ⟨⟨z,h3,h4⟩,h5⟩:=hy.zero (w:=w) hz
  have hev':∀p∈parts,evalS sl p.2=ev p.2:=fun p hp'=>hev p.2 (by simp [ho,Op.operands];exact ⟨p.1,hp'⟩)
  obtain ⟨h6,h7⟩:=partsA_rep hR hev' hpa
  have hcs:CsRep w F η hp (y.zero.map .v) z.cells.toList:=by
   rw [h4]
   refine csRep_closed (by simp) fun j x u hx hu=>?_
   rw [List.getElem?_map,hx] at hu
   simp only [Option.map_some,Option.some.injEq] at hu
   subst hu
   exact Tr.val0 (h5 x (List.mem_of_getElem? hx))
  obtain ⟨cs',h8,h9⟩:=run_fill hR.heap (placeS l) lp (parts.map fun p=>(p.1,a.eval p.2)) _ r z.cells h6 h7 hcs hr
  have hinf:∀f∈fs.toList,∃i,P.info? f.type=some i:=fun f hf=>by
   have:(f.offset,P.cellsOf f.type,f.type)∈l:=by rw [←h2];exact List.mem_map.2 ⟨f,hf,rfl⟩
   have hne:=List.all_eq_true.1 hnz _ this
   simp at hne
   cases hq:P.info? f.type with
   | none=>simp [Program.cellsOf,hq] at hne
   | some i=>exact ⟨i,rfl⟩
  have hm:=mapM_places fs.toList hinf
  have hpl:(fun i=>((fs.toList.map fun f=>(f.offset,P.cellsOf f.type)).toArray)[i]?)=placeS l:=by
   funext i
   unfold placeS
   rw [←h2]
   simp only [List.getElem?_toArray,List.getElem?_map,Option.map_map]
   rfl
  obtain ⟨it,hi1,_,_,hi4⟩:=hy.info
  obtain ⟨z',hz1,_⟩:=hi4 hz
  have hzz:z'=z:=by
   have:(zeroValue t).run P w=.ok z' w:=by simp [zeroValue,typeInfo,hi1,hz1]
   rw [h3] at this
   injection this with this _
   exact this.symm
  have hbuilt:P.built t ((parts.map fun p=>(p.1,a.eval p.2)).toArray).toList=some cs':=by
   unfold Program.built
   rw [hi1,h1]
   dsimp only
   rw [hz1,hm]
   dsimp only
   rw [hpl,hzz]
   exact h8
  refine ⟨.agg cs',?_,cs'.toList,by simp,h9⟩
  unfold execOp;rw [ho]
  have:=run_build (P:=P) w t (parts.map fun p=>(p.1,a.eval p.2)).toArray cs' hbuilt
  simp only [List.map_toArray,Sem.run_bind]
  rw [this]
  rfl
def rowsA:Nat→List (Nat × WV)→Option (List (List TV))
 | _,[]=>some []
 | k,(i,v)::r=>if i=k then (match v.closed with
   | some vs=>(rowsA (k+1) r).map (vs::·)
   | none=>none) else none
theorem fill_rows {sz:Nat} (hsz0:0<sz) (hH:HRep C w η F hp):∀(parts:List (Nat × WV)) (vals:List (Nat × Value)) (k:Nat) (rows:List (List TV)) (pre rest:List Value),parts.length=vals.length→(∀(j:Nat) (p:Nat × WV) (q:Nat × Value),parts[j]?=some p→vals[j]?=some q→p.1=q.1∧WRep w F η hp p.2 q.2)→
 rowsA k parts=some rows→(∀row∈rows,row.length=sz)→pre.length=k*sz→rest.length=rows.length*sz→
 ∃cs:List Value,Instr.fill (fun i=>some (i*sz,sz)) (pre++rest).toArray vals=some (pre++cs).toArray∧cs.length=rows.length*sz∧∀(i j:Nat) (row:List TV) (x:TV),rows[i]?=some row→row[j]?=some x→∃u,cs[i*sz+j]?=some u∧Tr w F x u:=by
 intro parts
 induction parts with
 | nil=>
   intro vals k rows pre rest hl _ hr _ _ hrl
   have:vals=[]:=List.eq_nil_of_length_eq_zero hl.symm
   subst this
   simp only [rowsA,Option.some.injEq] at hr
   subst hr
   have:rest=[]:=List.eq_nil_of_length_eq_zero (by simpa using hrl)
   subst this
   exact ⟨[],rfl,by simp,by simp⟩
 | cons p parts ih=>
   intro vals k rows pre rest hl hpv hr hrs hpre hrl
   obtain ⟨i,v⟩:=p
   cases vals with
   | nil=>simp at hl
   | cons q vals=>
     obtain ⟨h1,h2⟩:=hpv 0 (i,v) q rfl rfl
     obtain ⟨i',u⟩:=q
     dsimp only at h1 h2
     subst h1
     unfold rowsA at hr
     split at hr
     ·rename_i hik
      subst hik
      split at hr
      ·rename_i vs hvs
       rw [Option.map_eq_some_iff] at hr
       obtain ⟨rows',hr',rfl⟩:=hr
       obtain ⟨hc1,hc2⟩:=closed_cells hvs
       have hc:=WRep.cells hH h2 hc2
       rw [hc1] at hc
       have hvl:vs.length=sz:=hrs vs (by simp)
       have hul:u.cells.toList.length=sz:=by have:=hc.1;simpa [hvl] using this
       have hrl':rest.length=rows'.length*sz+sz:=by rw [hrl];simp [Nat.add_mul]
       have hf:=foldl_set (pre++rest).toArray (i*sz) u.cells.toList 0 (by simp;rw [hpre,hrl'];simp at hul;omega)
       simp only [Nat.add_zero] at hf
       have hfa:(u.cells.zipIdx.foldl (fun cs (x:Value × Nat)=>cs.setIfInBounds (i*sz+x.2) x.1) (pre++rest).toArray)=((pre++u.cells.toList)++rest.drop sz).toArray:=by
        apply Array.ext'
        have:(u.cells.zipIdx.foldl (fun cs (x:Value × Nat)=>cs.setIfInBounds (i*sz+x.2) x.1) (pre++rest).toArray).toList=putAt (pre++rest) (i*sz) u.cells.toList:=by
         rw [←hf,←Array.foldl_toList]
         congr 2
         simp
        rw [this]
        unfold putAt
        rw [←hpre,List.take_left,List.drop_append,hul,List.drop_of_length_le (by omega)]
        simp
       obtain ⟨cs,h3,h4,h5⟩:=ih vals (i+1) rows' (pre++u.cells.toList) (rest.drop sz) (by simpa using hl) (fun j p q hp' hq=>hpv (j+1) p q (by simpa using hp') (by simpa using hq)) hr' (fun r hr=>hrs r (by simp [hr]))
        (by rw [List.length_append,hpre,hul,Nat.add_mul,Nat.one_mul]) (by rw [List.length_drop,hrl'];omega)
       refine ⟨u.cells.toList++cs,?_,by rw [List.length_append,hul,h4];simp [Nat.add_mul,Nat.add_comm],fun i2 j row x hi hj=>?_⟩
       ·unfold Instr.fill
        dsimp only
        rw [if_neg (by simp;simp at hul;rw [hpre,hrl'];omega)]
        rw [hfa,h3,List.append_assoc]
       ·cases i2 with
        | zero=>
          simp only [List.getElem?_cons_zero,Option.some.injEq] at hi
          subst hi
          have hjl:j<sz:=by rw [←hvl];exact (List.getElem?_eq_some_iff.1 hj).1
          rw [Nat.zero_mul,Nat.zero_add,List.getElem?_append_left (by omega)]
          have hju:j<u.cells.toList.length:=by omega
          exact ⟨_,List.getElem?_eq_getElem hju,hc.2.2 j (.v x) _ (by simp [hj]) (List.getElem?_eq_getElem hju)⟩
        | succ i2=>
          rw [List.getElem?_cons_succ] at hi
          obtain ⟨u',h6,h7⟩:=h5 i2 j row x hi hj
          refine ⟨u',?_,h7⟩
          rw [List.getElem?_append_right (by rw [hul,Nat.add_mul];omega),hul]
          rw [show (i2+1)*sz+j- sz=i2*sz+j by rw [Nat.add_mul];omega]
          exact h6
      ·cases hr
     ·cases hr
theorem newSl (hR:Reps C w η F sl hp N a) {nb:Nat} {e:TypeId} {sz:Nat} {rows:List (List TV)} {cs:List Value} (hn:hp nb=none) (hu:UnmentB hp nb) (hus:UnmentS sl nb) (hbs:C.bs.length≤nb) (hm:rows.length≤maxLen)
 (hsz:∀row∈rows,row.length=sz) (hl:cs.length=rows.length*sz) (htr:∀(i j:Nat) (row:List TV) (x:TV),rows[i]?=some row→row[j]?=some x→∃u,cs[i*sz+j]?=some u∧Tr w F x u):
 ∃η',HRep C (w.alloc (.cells cs.toArray e)) η' F (hpSet hp nb (some (.sl e sz false rows)))∧(∀g,F g→(w.alloc (.cells cs.toArray e)).heap[g]?=w.heap[g]?)∧(∀c,UnmentS sl c∨Stays η η' hp (hpSet hp nb (some (.sl e sz false rows))) c)∧η' nb=.slice (some ⟨w.heap.size,0,none⟩) rows.length rows.length:=by
 have hold:∀g,g<w.heap.size→(w.alloc (.cells cs.toArray e)).heap[g]?=w.heap[g]?:=fun g hg=>heap_alloc_old w _ hg
 have hFc:∀g,F g→(w.alloc (.cells cs.toArray e)).heap[g]?=w.heap[g]?:=fun g hg=>hold g (hR.heap.Flt g hg)
 refine ⟨ηSet η nb (.slice (some ⟨w.heap.size,0,none⟩) rows.length rows.length),?_,hFc,fun c=>?_,ηSet_same _ _ _⟩
 ·refine hR.heap.new hold (by simp) rfl rfl rfl hn hu hbs (fun g hg=>by simp only [Own,Value.ownBlock,Option.some.injEq] at hg;omega) rfl ⟨cs,⟨hl,.inr ⟨w.heap.size,rows.length,cs.toArray,ηSet_same _ _ _,Nat.zero_le _,heap_alloc_new w _,Nat.le_refl _,hm,by simpa using hl,?_⟩⟩,hsz,fun i j row x hi hj=>?_⟩
  ·simp [←hl]
  ·obtain ⟨u,h1,h2⟩:=htr i j row x hi hj
   exact ⟨u,h1,h2.keep (fun _ h=>h) fun g hg=>hFc g hg⟩
 ·by_cases hc:c=nb
  ·subst hc;exact .inl hus
  ·exact .inr (Stays.of_same (hpSet_other hc) (ηSet_other hc))
theorem OStep.buildSlice {n:Nat} {parts:List (Nat × Operand)} {lp:List (Nat × WV)} {e:TypeId} {ye:Ty} {nb:Nat} {rows:List (List TV)} (ho:o.op=.buildSlice t n parts.toArray) (hy:TyFits P t y) (hs:y.shp=.slice e) (hye:TyFits P e ye) (hz:ye.zero.length=ye.size) (h0:0<ye.size)
 (hpa:partsA ev parts=some lp) (hr:rowsA 0 lp=some rows) (hsz:∀row∈rows,row.length=ye.size) (hn':rows.length=n) (hcap:n*ye.size≤16777216):OStep P o ev ⟨[],[nb],[(nb,some (.sl e ye.size false rows))],.w (.c (.mref nb))⟩:=
 .heap fun C w η F sl hp N a hR hev hnd hnew=>by
  obtain ⟨hn,hu,hus,hbs⟩:=hnew nb (by simp)
  have hzn:ye.zero≠[]:=by intro h;rw [h] at hz;simp at hz;omega
  obtain ⟨⟨z,h3,h4⟩,h5⟩:=hye.zero (w:=w) hzn
  have hev':∀p∈parts,evalS sl p.2=ev p.2:=fun p hp'=>hev p.2 (by simp [ho,Op.operands];exact ⟨p.1,hp'⟩)
  obtain ⟨h6,h7⟩:=partsA_rep hR hev' hpa
  have hzl:z.cells.size=ye.size:=by have:=congrArg List.length h4;simpa [hz] using this
  obtain ⟨cs,h8,h9,h10⟩:=fill_rows h0 hR.heap lp (parts.map fun p=>(p.1,a.eval p.2)) 0 rows [] ((List.range (n*ye.size)).map fun i=>z.cells[i % ye.size]!) h6 h7 hr hsz (by simp) (by simp [hn'])
  have hm:rows.length≤maxLen:=by
   have:n*1≤n*ye.size:=Nat.mul_le_mul_left _ h0
   simp only [maxLen]
   omega
  obtain ⟨η',h11,h12,h13,h14⟩:=newSl hR (e:=e) hn hu hus hbs hm hsz h9 h10
  refine ⟨.slice (some ⟨w.heap.size,0,none⟩) n n,_,η',F,.inl ?_,h11,fun _ h=>h,h12,h13,?_⟩
  ·unfold execOp;rw [ho]
   have hcap':¬2 ^ 24<n*ye.size:=by simp;omega
   by_cases hz0:n*ye.size=0
   ·have hn0:n=0:=by
     rcases Nat.mul_eq_zero.1 hz0 with h| h
     ·exact h
     ·omega
    subst hn0
    simp only [Nat.zero_mul,List.range_zero,List.map_nil,List.append_nil,List.nil_append] at h8
    simp [Instr.buildSlice,run_underlying (hy.slice hs),hye.run_size,newRow]
    have hr0:Array.map (fun _=>(default:Value)) (Array.range 0)=#[]:=by apply Array.ext';simp
    rw [hr0,h8]
    simp
   ·have hz0':¬(n=0∨ye.size=0):=by rw [←Nat.mul_eq_zero];exact hz0
    simp only [Instr.buildSlice,Sem.run_bind,run_underlying (hy.slice hs),Result.andThen_ok,hye.run_size,gt_iff_lt,if_neg hcap',if_neg hz0,h3,Sem.run_pure,List.map_toArray,hzl]
    have:(Array.map (fun x=>z.cells[x % ye.size]!) (Array.range (n*ye.size)))=([]++(List.range (n*ye.size)).map fun i=>z.cells[i % ye.size]!).toArray:=by
     apply Array.ext';simp
    rw [this,h8]
    simp [newRow]
  ·simp only [SRep,WRep,CRep,hpUpd,hpSet_same,h14,hn']
theorem OStep.make {x z:Operand} {k k':IntKind} {n:Nat} {e:TypeId} {ye:Ty} {nb:Nat} (ho:o.op=.makeSlice t x z) (hx:ev x=iS k (n:Int)) (hz':ev z=iS k' (n:Int)) (hy:TyFits P t y) (hs:y.shp=.slice e) (hye:TyFits P e ye) (hz:ye.zero.length=ye.size) (h0:0<ye.size)
 (hb:ye.bytes*n≤281474976710656) (hm:n≤maxLen):OStep P o ev ⟨[],[nb],[(nb,some (.sl e ye.size false (List.replicate n ye.zero)))],.w (.c (.mref nb))⟩:=
 .heap fun C w η F sl hp N a hR hev hnd hnew=>by
  obtain ⟨hn,hu,hus,hbs⟩:=hnew nb (by simp)
  have e1:=hR.int ((hev x (by simp [ho,Op.operands])).trans hx)
  have e2:=hR.int ((hev z (by simp [ho,Op.operands])).trans hz')
  obtain ⟨i,hi,hi1,hi2,hi3⟩:=hye.info
  obtain ⟨zv,hz1,hz2,hz3⟩:=hi3 (by intro h;rw [h] at hz;simp at hz;omega)
  have hzl:zv.cells.size=ye.size:=by have:=congrArg List.length hz2;simpa [hz] using this
  have hm':=hm
  simp only [maxLen] at hm'
  have hr:=run_make (P:=P) w t e i zv (hy.slice hs) hi hz1 k k' (n:Int) (n:Int) (by omega) (Int.le_refl _) (by rw [hi2];have:=Int.ofNat_le.2 hb;simpa using this) (by omega)
  simp only [Int.toNat_natCast,hi1] at hr
  have hcs:madeCells zv.cells (n*ye.size)=((List.range (n*ye.size)).map fun i=>zv.cells[i % ye.size]!).toArray:=by
   apply Array.ext';simp [madeCells,hzl]
  rw [hcs] at hr
  obtain ⟨η',h11,h12,h13,h14⟩:=newSl hR (e:=e) (sz:=ye.size) (rows:=List.replicate n ye.zero) (cs:=(List.range (n*ye.size)).map fun i=>zv.cells[i % ye.size]!) hn hu hus hbs (by simpa using hm) (fun row hr=>by rw [List.eq_of_mem_replicate hr,hz]) (by simp) (fun i j row x hi' hj=>by
   rw [List.getElem?_replicate] at hi'
   split at hi'
   ·rename_i hin
    injection hi' with hi'
    subst hi'
    have hjl:j<ye.size:=by rw [←hz];exact (List.getElem?_eq_some_iff.1 hj).1
    have hb:=row_lt (rows:=List.replicate n ye.zero) (sz:=ye.size) (i:=i) (by simpa using hin)
    simp only [List.length_replicate] at hb
    refine ⟨x.val0,?_,Tr.val0 (hz3 x (List.mem_of_getElem? hj))⟩
    have em:(i*ye.size+j) % ye.size=j:=by rw [Nat.mul_comm,Nat.mul_add_mod,Nat.mod_eq_of_lt hjl]
    rw [List.getElem?_map,List.getElem?_range (by omega),Option.map_some,em]
    have hjz:j<zv.cells.size:=by omega
    rw [getElem!_pos zv.cells j hjz]
    have:zv.cells.toList[j]?=some x.val0:=by rw [hz2,List.getElem?_map,hj];rfl
    rw [Array.getElem?_toList,Array.getElem?_eq_getElem hjz] at this
    exact this
   ·cases hi')
  rw [List.length_replicate] at h14
  refine ⟨.slice (some ⟨w.heap.size,0,none⟩) n n,_,η',F,.inl ?_,h11,fun _ h=>h,h12,h13,?_⟩
  ·unfold execOp;rw [ho]
   simp only [e1,e2,Sem.run_bind,hr,Result.andThen_ok]
   rfl
  ·simp only [SRep,WRep,CRep,hpUpd,hpSet_same,h14]
end
end Go.Proofs.YtgbkhjllbgmdcaaGreat
namespace Go.Proofs.YtgbkhjllbgmdcaaGreat
open Go.RowKit
section
variable {P:Program} {C:Ctx} {w:World} {η:Nat→Value} {F:Nat→Prop} {sl:Sl} {hp:Hp} {N:Nat} {a:Act} {o:Oper} {ev:Operand→SV} {t:TypeId} {y:Ty}
theorem Tr.sub {rows:List (List TV)} {a0:Option Addr} {n c:Nat} (h:Tr w F (.tree rows) (.slice a0 n c)) {sz:Nat} (hsz:∀row∈rows,row.length=sz) {l r m:Nat} (hl:l≤r) (hr:r≤rows.length) (hm:m≤c) (hrm:r≤m):Tr w F (.tree ((rows.drop l).take (r- l))) (sliced a0 l r m sz):=by
 unfold sliced
 generalize hu:Value.slice a0 n c=u at h
 cases h with
 | empty a c' hm'=>
   injection hu with h1 h2 h3
   have:l=0:=by simp at hr;omega
   subst this
   have:r=0:=by simp at hr;omega
   subst this
   exact .empty _ _ (by omega)
 | tree _ g o' sz' c' cv hc hmx hsz' hF hcell htr=>
   injection hu with h1 h2 h3
   subst h1;subst h2;subst h3
   by_cases he:l=r
   ·subst he
    rw [Nat.sub_self,List.take_zero]
    exact .empty _ _ (by omega)
   ·have hss:sz'=sz:=by
     have:0<rows.length:=by omega
     have hmem:=List.getElem_mem this
     rw [←hsz _ hmem,hsz' _ hmem]
    subst hss
    rw [if_neg (by omega)]
    have hlen:((rows.drop l).take (r- l)).length=r- l:=by rw [List.length_take,List.length_drop];omega
    have hget:∀(i:Nat) (row:List TV),((rows.drop l).take (r- l))[i]?=some row→rows[l+i]?=some row:=fun i row hi=>by
     rw [List.getElem?_take] at hi
     split at hi
     ·rwa [List.getElem?_drop] at hi
     ·cases hi
    have:=Tr.tree (w:=w) (F:=F) ((rows.drop l).take (r- l)) g (o'+l*sz') sz' (m- l) (fun i j=>cv (l+i) j) (by rw [hlen];omega) (by omega) (fun row hrow=>hsz' row (List.mem_of_mem_drop (List.mem_of_mem_take hrow))) hF
     (fun i j row x hi hj=>by
      have:=hcell (l+i) j row x (hget i row hi) hj
      rwa [Nat.add_mul,show o'+(l*sz'+i*sz'+j)=o'+l*sz'+(i*sz'+j) by omega] at this)
     (fun i j row x hi hj=>htr (l+i) j row x (hget i row hi) hj)
    rw [hlen] at this
    simpa [addr_add] using this
theorem run_sliceT {e:TypeId} {ye:Ty} (hy:TyFits P t y) (hs:y.shp=.slice e) (hye:TyFits P e ye) (a0:Option Addr) (n c:Nat) (lo hi mx:Option Value) {l r m:Nat} (hb:(Instr.sliceBounds true n c lo hi mx).run P w=.ok (l,r,m) w):
 (Instr.sliceAt t (.slice a0 n c) lo hi mx).run P w=.ok (sliced a0 l r m ye.size) w:=by
 simp [Instr.sliceAt,Instr.slice,run_underlying (hy.slice hs),hb,hye.run_size,sliced]
def Bnd (ev:Operand→SV) (lo hi:Option Operand) (n:Nat) (l r:Nat):Prop:=
 (match lo with| none=>l=0| some x=>∃k,ev x=iS k (l:Int))∧(match hi with| none=>r=n| some x=>∃k,ev x=iS k (r:Int))∧l≤r∧r≤n
theorem run_bounds (hR:Reps C w η F sl hp N a) {lo hi:Option Operand} {n c l r:Nat} (hb:Bnd ev lo hi n l r) (hc:n≤c) (h1:∀x,lo=some x→evalS sl x=ev x) (h2:∀x,hi=some x→evalS sl x=ev x):
 (Instr.sliceBounds true n c (lo.map a.eval) (hi.map a.eval) none).run P w=.ok (l,r,c) w:=by
 obtain ⟨hl,hr,hlr,hrn⟩:=hb
 cases lo with
 | none=>
   dsimp only at hl
   subst hl
   cases hi with
   | none=>dsimp only at hr;subst hr;simp [Instr.sliceBounds]
   | some z=>
     obtain ⟨k,hk⟩:=hr
     have e:=hR.int ((h2 z rfl).trans hk)
     simp [Instr.sliceBounds,e,run_sliceBound,(by omega:(r:Int)≤(c:Int))]
 | some x=>
   obtain ⟨k,hk⟩:=hl
   have e:=hR.int ((h1 x rfl).trans hk)
   cases hi with
   | none=>
     dsimp only at hr
     subst hr
     simp [Instr.sliceBounds,e,run_sliceBound,(by omega:(l:Int)≤(r:Int))]
   | some z=>
     obtain ⟨k',hk'⟩:=hr
     have e':=hR.int ((h2 z rfl).trans hk')
     simp [Instr.sliceBounds,e,e',run_sliceBound,(by omega:(l:Int)≤(r:Int)),(by omega:(r:Int)≤(c:Int))]
theorem OStep.sliceT {x:Operand} {lo hi:Option Operand} {rows:List (List TV)} {e:TypeId} {ye:Ty} {l r:Nat} (ho:o.op=.slice t x lo hi none) (hx:ev x=tS rows) (hy:TyFits P t y) (hs:y.shp=.slice e) (hye:TyFits P e ye) (hsz:∀row∈rows,row.length=ye.size) (hb:Bnd ev lo hi rows.length l r):
 OStep P o ev ⟨[],[],[],tS ((rows.drop l).take (r- l))⟩:=
 .pure fun C w η F sl hp N a hR hev hnd=>by
  have h1:=hR.treev ((hev x (by simp [ho,Op.operands])).trans hx)
  have hc:∃a0 c,a.eval x=.slice a0 rows.length c∧rows.length≤c:=by
   generalize a.eval x=u at h1
   cases h1 with
   | empty a c hm=>exact ⟨a,c,rfl,Nat.zero_le _⟩
   | tree _ g o' sz' c cv hc hmx hsz' hF hcell htr=>exact ⟨_,c,rfl,hc⟩
  obtain ⟨a0,c,h2,h3⟩:=hc
  have hbd:=run_bounds (P:=P) hR hb h3 (fun z hz=>hev z (by subst hz;simp [ho,Op.operands])) (fun z hz=>hev z (by subst hz;cases lo<;>simp [ho,Op.operands]))
  obtain ⟨_,_,hlr,hrn⟩:=hb
  refine ⟨sliced a0 l r c ye.size,?_,?_⟩
  ·unfold execOp;rw [ho]
   simp only [h2,Option.map_none,Sem.run_bind,run_sliceT hy hs hye a0 _ c _ _ _ hbd,Result.andThen_ok]
   rfl
  ·rw [h2] at h1
   exact h1.sub hsz hlr hrn (Nat.le_refl _) (by omega)
end
end Go.Proofs.YtgbkhjllbgmdcaaGreat
