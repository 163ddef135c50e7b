/- Texts of the claim, one behind the other. -/
import Derived.Test.YtgbkhjllbgmdcaaGreatGd
import Derived.Test.YtgbkhjllbgmdcaaGreatBase
import Derived.Lib.EndianBits
import Derived.Laws.Bits64
set_option linter.unusedVariables false
set_option linter.unusedSimpArgs false
namespace Go.Proofs.YtgbkhjllbgmdcaaGreat.Q
theorem wpH:(∀(p:Prop) [Decidable p],decide p=true↔p)∧(∀(p:Prop) [Decidable p],decide p=false↔¬p)∧(∀b:Bool,((!b)=true)↔(b=false))∧(∀b:Bool,((!b)=false)↔(b=true))∧(∀a b:Bool,(a&&b)=true↔a=true∧b=true)∧(∀a b:Bool,(a|| b)=true↔a=true∨b=true)∧(∀b:Bool,¬b=true↔b=false)∧(∀b:Bool,¬b=false↔b=true)∧(∀a b:Int,¬a<b↔b≤a)∧(∀a b:Int,¬a≤b↔b<a):=⟨fun p _=>by rw [decide_eq_true_eq],fun p _=>decide_eq_false_iff_not,fun b=>by cases b<;>simp,fun b=>by cases b<;>simp,fun a b=>by cases a<;>cases b<;>simp,fun a b=>by cases a<;>cases b<;>simp,fun b=>by cases b<;>simp,fun b=>by cases b<;>simp,fun a b=>Int.not_lt,fun a b=>Int.not_le⟩
structure okC (c:DCodes):Prop where
  list:∀x∈c.list,0≤x∧x≤255
  lo:0≤c.at_
  hi:c.at_≤(c.list.length:Int)
  len:c.list.length≤1000000
theorem okC.at' {c:DCodes} (h:okC c) (hl:c.at_<(c.list.length:Int)):0≤atD c.list c.at_∧atD c.list c.at_≤255:=h.list _ (atD_mem ⟨h.lo,hl⟩)
theorem new_sp (l:List Int) (n:Int) (hl:∀x∈l,0≤x∧x≤255) (hn:0≤n∧n≤1000000):WP (draw_New l n) okC:=by
  unfold draw_New
  refine WP.chk (by omega) fun _=>WP.ret ⟨fun x hx=>?_,Int.le_refl _,?_,?_⟩
  · exact hl x (List.drop_subset _ _ (List.take_subset _ _ hx))
  · exact Int.natCast_nonneg _
  · simp only [sliceD,List.length_take,List.length_drop];omega
theorem next_sp (c:DCodes) (n:Int) (hc:okC c) (hn:n≤1000000):WP (draw_Next c n) fun r=>okC r.2∧0≤r.1∧(1≤n→r.1<n)∧(n<1→r.1=0):=by
  have h0:=hc.lo
  have h1:=hc.hi
  have h2:=hc.len
  unfold draw_Next draw_Left
  refine WP.call (R:=fun a=>a=(decide (c.at_<(c.list.length:Int)),c)) (WP.ret rfl) ?_
  rintro _ rfl
  dsimp only
  refine WP.bif (fun wh=>?_) (fun wh=>?_)<;>(try simp only [wpH, ne_eq] at wh)
  · exact WP.ret ⟨hc,Int.le_refl _,fun h=>by omega,fun _=>rfl⟩
  refine WP.bif (fun wh=>?_) (fun wh=>?_)<;>(try simp only [wpH, ne_eq] at wh)
  · exact WP.ret ⟨hc,Int.le_refl _,fun h=>by omega,fun _=>rfl⟩
  have h3:=hc.at' (by assumption)
  generalize atD c.list c.at_=v at h3
  have h4:0≤v*n:=Int.mul_nonneg h3.1 (by omega)
  have h5:v*n≤255*n:=Int.mul_le_mul_of_nonneg_right h3.2 (by omega)
  have h6:v*n / 256<n:=Int.ediv_lt_of_lt_mul (by omega) (by omega)
  (repeat' (first | (refine WP.chk (by (first | omega | (simp only [okI, List.length_append, List.length_cons, List.length_nil, length_setD, length_repD] at *; omega))) fun _ => ?_) | ((refine WP.bif (fun wh => ?_) (fun wh => ?_)) <;> (try simp only [wpH, ne_eq] at wh) <;> (try (exfalso; omega)))))
  exact WP.ret ⟨⟨hc.list,by show 0≤c.at_+1;omega,by show c.at_+1≤(c.list.length:Int);omega,hc.len⟩,Int.ediv_nonneg h4 (by omega),fun _=>h6,fun h=>by omega⟩
def rightS (s:ASlot):Prop:=(s.Size=1∨s.Size=2∨s.Size=4∨s.Size=8∨s.Size=16)∧(s.Align=1∨s.Align=2∨s.Align=4∨s.Align=8∨s.Align=16∨s.Align=32∨s.Align=64)
theorem slot_sp (c:DCodes) (hc:okC c):WP (draw_Slot c) fun r=>okC r.2∧rightS r.1:=by
  unfold draw_Slot
  refine WP.call (next_sp c 7 hc (by omega)) fun x1 ⟨h1,h2,h3,h4⟩=>?_
  (repeat' (first | (refine WP.chk (by (first | omega | (simp only [okI, List.length_append, List.length_cons, List.length_nil, length_setD, length_repD] at *; omega))) fun _ => ?_) | ((refine WP.bif (fun wh => ?_) (fun wh => ?_)) <;> (try simp only [wpH, ne_eq] at wh) <;> (try (exfalso; omega)))))
  refine WP.call (next_sp _ 8 h1 (by omega)) fun x2 ⟨h5,h6,h7,h8⟩=>?_
  (repeat' (first | (refine WP.chk (by (first | omega | (simp only [okI, List.length_append, List.length_cons, List.length_nil, length_setD, length_repD] at *; omega))) fun _ => ?_) | ((refine WP.bif (fun wh => ?_) (fun wh => ?_)) <;> (try simp only [wpH, ne_eq] at wh) <;> (try (exfalso; omega)))))
  refine WP.ret ⟨h5,?_,?_⟩
  · have:x1.1=0∨x1.1=1∨x1.1=2∨x1.1=3∨x1.1=4∨x1.1=5∨x1.1=6:=by omega
    rcases this with h| h| h| h| h| h| h<;>rw [h]<;>simp [atD]
  · have:x2.1=0∨x2.1=1∨x2.1=2∨x2.1=3∨x2.1=4∨x2.1=5∨x2.1=6∨x2.1=7:=by omega
    rcases this with h| h| h| h| h| h| h| h<;>rw [h]<;>simp [atD]
theorem slots_sp (c:DCodes) (most:Int) (hc:okC c) (hm:0≤most∧most≤1000):WP (draw_Slots c most) fun r=>okC r.2∧(r.1.length:Int)≤most∧∀s∈r.1,rightS s:=by
  unfold draw_Slots
  (repeat' (first | (refine WP.chk (by (first | omega | (simp only [okI, List.length_append, List.length_cons, List.length_nil, length_setD, length_repD] at *; omega))) fun _ => ?_) | ((refine WP.bif (fun wh => ?_) (fun wh => ?_)) <;> (try simp only [wpH, ne_eq] at wh) <;> (try (exfalso; omega)))))
  refine WP.call (next_sp c _ hc (by omega)) fun x1 ⟨h1,h2,h3,h4⟩=>?_
  refine WP.loop (fun j=>0≤j.1∧okC j.2.1∧j.1+(j.2.2.length:Int)≤most∧∀s∈j.2.2,rightS s) (fun j=>j.1.toNat) ⟨h2,h1,by simp;omega,by simp⟩ ?_
  rintro again ⟨n,c2,l⟩ ⟨h5,h6,h7,h8⟩ ih
  dsimp only at h5 h6 h7 h8 ih ⊢
  (repeat' (first | (refine WP.chk (by (first | omega | (simp only [okI, List.length_append, List.length_cons, List.length_nil, length_setD, length_repD] at *; omega))) fun _ => ?_) | ((refine WP.bif (fun wh => ?_) (fun wh => ?_)) <;> (try simp only [wpH, ne_eq] at wh) <;> (try (exfalso; omega)))))
  · refine WP.call (slot_sp c2 h6) fun x2 ⟨h9,h10⟩=>?_
    (repeat' (first | (refine WP.chk (by (first | omega | (simp only [okI, List.length_append, List.length_cons, List.length_nil, length_setD, length_repD] at *; omega))) fun _ => ?_) | ((refine WP.bif (fun wh => ?_) (fun wh => ?_)) <;> (try simp only [wpH, ne_eq] at wh) <;> (try (exfalso; omega)))))
    refine ih _ ⟨by omega,h9,by simp;omega,?_⟩ (by dsimp only;omega)
    intro s hs
    rcases List.mem_append.1 hs with hs| hs
    · exact h8 s hs
    · simp at hs;rw [hs];exact h10
  · exact WP.ret ⟨h6,by dsimp only;omega,h8⟩
def inN (x n:Int):Prop:=0≤x∧x<n
theorem like_sp (c:DCodes) (f:AFunc) (s:Int) (hc:okC c) (hs:inN s f.Slots.length) (hl:f.Slots.length≤1000):WP (draw_like c f s) fun r=>okC r.2∧inN r.1 f.Slots.length∧(atD f.Slots r.1).Size=(atD f.Slots s).Size:=by
  unfold draw_like
  obtain ⟨hs1,hs2⟩:=hs
  refine WP.loop (fun j=>0≤j.1∧j.1≤f.Slots.length∧(j.2.length:Int)≤j.1∧(s<j.1→1≤j.2.length)∧∀x∈j.2,inN x f.Slots.length∧(atD f.Slots x).Size=(atD f.Slots s).Size) (fun j=>f.Slots.length- j.1.toNat) ⟨by simp,by simp,by simp,by simp;omega,by simp⟩ ?_
  rintro again ⟨k,l⟩ ⟨h1,h2,h3,h4,h5⟩ ih
  dsimp only at h1 h2 h3 h4 h5 ih ⊢
  (repeat' (first | (refine WP.chk (by (first | omega | (simp only [okI, List.length_append, List.length_cons, List.length_nil, length_setD, length_repD] at *; omega))) fun _ => ?_) | ((refine WP.bif (fun wh => ?_) (fun wh => ?_)) <;> (try simp only [wpH, ne_eq] at wh) <;> (try (exfalso; omega)))))
  · refine ih _ ⟨by omega,by dsimp only;omega,by simp;omega,by simp,?_⟩ (by dsimp only;omega)
    intro x hx
    rcases List.mem_append.1 hx with hx| hx
    · exact h5 x hx
    · simp at hx;rw [hx];exact ⟨⟨by omega,by omega⟩,by assumption⟩
  · refine ih _ ⟨by omega,by dsimp only;omega,by dsimp only;omega,fun h=>?_,h5⟩ (by dsimp only;omega)
    dsimp only at h ⊢
    by_cases hsk:s=k
    · subst hsk;contradiction
    · exact h4 (by omega)
  · refine WP.call (next_sp c _ hc (by omega)) fun x1 ⟨h6,h7,h8,h9⟩=>?_
    have h10:=h4 (by omega)
    (repeat' (first | (refine WP.chk (by (first | omega | (simp only [okI, List.length_append, List.length_cons, List.length_nil, length_setD, length_repD] at *; omega))) fun _ => ?_) | ((refine WP.bif (fun wh => ?_) (fun wh => ?_)) <;> (try simp only [wpH, ne_eq] at wh) <;> (try (exfalso; omega)))))
    exact WP.ret ⟨h6,h5 _ (atD_mem ⟨by omega,by omega⟩)⟩
theorem pow_64 {n:Int} (h0:0≤n) (h1:n<64):0≤(1:Int)*2 ^ n.toNat∧(1:Int)*2 ^ n.toNat≤18446744073709551615:=by
  have h2:2 ^ n.toNat≤2 ^ 63:=Nat.pow_le_pow_right (by decide) (by omega)
  have e:(1:Int)*2 ^ n.toNat=((2 ^ n.toNat:Nat):Int):=by rw [Int.one_mul,Int.natCast_pow];rfl
  rw [e]
  exact ⟨Int.natCast_nonneg _,Int.le_trans (Int.ofNat_le.2 h2) (by decide)⟩
def wordR (n:Int):Prop:=0≤n∧n≤18446744073709551615
theorem word_sp (c:DCodes) (hc:okC c):WP (draw_Word c) fun r=>okC r.2∧wordR r.1:=by
  unfold draw_Word
  refine WP.call (next_sp c 6 hc (by omega)) fun x1 ⟨h1,h2,h3,h4⟩=>?_
  (repeat' (first | (refine WP.chk (by (first | omega | (simp only [okI, List.length_append, List.length_cons, List.length_nil, length_setD, length_repD] at *; omega))) fun _ => ?_) | ((refine WP.bif (fun wh => ?_) (fun wh => ?_)) <;> (try simp only [wpH, ne_eq] at wh) <;> (try (exfalso; omega)))))
  · refine WP.call (next_sp _ 3 h1 (by omega)) fun x2 ⟨h5,h6,h7,h8⟩=>?_
    (repeat' (first | (refine WP.chk (by (first | omega | (simp only [okI, List.length_append, List.length_cons, List.length_nil, length_setD, length_repD] at *; omega))) fun _ => ?_) | ((refine WP.bif (fun wh => ?_) (fun wh => ?_)) <;> (try simp only [wpH, ne_eq] at wh) <;> (try (exfalso; omega)))))
    exact WP.ret ⟨h5,by dsimp only;omega,by dsimp only;omega⟩
  · refine WP.call (next_sp _ 64 h1 (by omega)) fun x2 ⟨h5,h6,h7,h8⟩=>?_
    have:=pow_64 h6 (h7 (by omega))
    refine WP.chk ⟨by omega,by omega,this⟩ fun _=>?_
    exact WP.ret ⟨h5,this⟩
  · exact WP.ret ⟨h1,by dsimp only;omega,by dsimp only;omega⟩
  · refine WP.call (next_sp _ 256 h1 (by omega)) fun x2 ⟨h5,h6,h7,h8⟩=>?_
    (repeat' (first | (refine WP.chk (by (first | omega | (simp only [okI, List.length_append, List.length_cons, List.length_nil, length_setD, length_repD] at *; omega))) fun _ => ?_) | ((refine WP.bif (fun wh => ?_) (fun wh => ?_)) <;> (try simp only [wpH, ne_eq] at wh) <;> (try (exfalso; omega)))))
    exact WP.ret ⟨h5,by dsimp only;omega,by dsimp only;omega⟩
theorem WP.join_and {α:Type} {K:Bool→M α} {p q:Bool} {Q:α→Prop} (h:WP (K (p&&q)) Q):WP (M.join K fun k=>M.bif p (k q) (k false)) Q:=by
  refine WP.join0 (WP.bif (fun hp=>?_) fun hp=>?_)<;>rw [hp] at h<;>simpa using h
def reg (n:Int):Prop:=0≤n∧n<8
inductive WfI (n i par:Int) (sl:List ASlot) (J:Int→Prop):AInstr→Prop
  | const (a w:Int) (ha:reg a) (hw:wordR w):WfI n i par sl J ⟨0,a,0,0,w⟩
  | copy (o a b:Int) (ho:o=1∨o=12) (ha:reg a) (hb:reg b):WfI n i par sl J ⟨o,a,b,0,0⟩
  | arith (o a b c:Int) (h1:2≤o) (h2:o≤11) (ha:reg a) (hb:reg b) (hc:reg c):WfI n i par sl J ⟨o,a,b,c,0⟩
  | io (o a:Int) (ho:o=13∨o=14) (ha:reg a):WfI n i par sl J ⟨o,a,0,0,0⟩
  | load (a s:Int) (ha:reg a) (hs:inN s sl.length):WfI n i par sl J ⟨15,a,s,0,0⟩
  | store (s a:Int) (hs:inN s sl.length) (ha:reg a):WfI n i par sl J ⟨16,s,a,0,0⟩
  | move (s t:Int) (hs:inN s sl.length) (ht:inN t sl.length) (he:(atD sl s).Size=(atD sl t).Size):WfI n i par sl J ⟨17,s,t,0,0⟩
  | arg (a r:Int) (ha:reg a) (hr:reg r):WfI n i par sl J ⟨18,a,r,0,0⟩
  | param (a k:Int) (ha:reg a) (hk:inN k par):WfI n i par sl J ⟨19,a,k,0,0⟩
  | jump (t:Int) (ht:J t):WfI n i par sl J ⟨20,t,0,0,0⟩
  | branch (a t:Int) (ha:reg a) (ht:J t):WfI n i par sl J ⟨21,a,t,0,0⟩
  | call (f:Int) (h1:i<f) (h2:f<n):WfI n i par sl J ⟨22,f,0,0,0⟩
  | ret:WfI n i par sl J ⟨23,0,0,0,0⟩
  | trap (w:Int) (hw:wordR w):WfI n i par sl J ⟨24,0,0,0,w⟩
def parR (ps:List Int):Prop:=ps.length≤1000∧∀x∈ps,0≤x∧x≤3
theorem one_mem {α:Type} {x y:α} (h:x∈[y]):x=y:=by simpa using h
theorem body_sp (c:DCodes) (f:AFunc) (i:Int) (ps:List Int) (hc:okC c) (hf:f.Slots.length≤1000) (hp:f.Params≤1000) (hi:0≤i∧i≤1000) (hps:parR ps):WP (draw_body c f i ps) fun r=>okC r.2∧r.1.length≤4∧∀x∈r.1,WfI ps.length i f.Params f.Slots (fun t=>t= -1) x:=by
  obtain ⟨hp1,hp2⟩:=hps
  unfold draw_body
  refine WP.call (next_sp c 4 hc (by omega)) fun x1 ⟨h1,h2,h3,_⟩=>?_
  have hr:reg x1.1:=⟨h2,by have:=h3 (by omega);omega⟩
  refine WP.call (next_sp _ 20 h1 (by omega)) fun x2 ⟨h5,h6,h7,_⟩=>?_
  refine WP.join_and (WP.bif (fun wh=>?_) (fun wh=>?_))<;>(try simp only [wpH, ne_eq] at wh)
  · refine WP.call (next_sp _ _ h5 (by omega)) fun x4 ⟨a1,a2,a3,_⟩=>WP.ret ⟨a1,by simp,fun x hx=>?_⟩
    rw [one_mem hx]
    exact .store _ _ ⟨a2,a3 (by omega)⟩ hr
  refine WP.join_and (WP.bif (fun wh=>?_) (fun wh=>?_))<;>(try simp only [wpH, ne_eq] at wh)
  · refine WP.call (next_sp _ _ h5 (by omega)) fun x4 ⟨a1,a2,a3,_⟩=>WP.ret ⟨a1,by simp,fun x hx=>?_⟩
    rw [one_mem hx]
    exact .load _ _ hr ⟨a2,a3 (by omega)⟩
  refine WP.join_and (WP.bif (fun wh=>?_) (fun wh=>?_))<;>(try simp only [wpH, ne_eq] at wh)
  · refine WP.call (next_sp _ _ h5 (by omega)) fun x4 ⟨a1,a2,a3,_⟩=>?_
    refine WP.call (like_sp _ f _ a1 ⟨a2,a3 (by omega)⟩ hf) fun x5 ⟨b1,b2,b3⟩=>WP.ret ⟨b1,by simp,fun x hx=>?_⟩
    rw [one_mem hx]
    exact .move _ _ b2 ⟨a2,a3 (by omega)⟩ b3
  refine WP.bif (fun wh=>?_) (fun wh=>?_)<;>(try simp only [wpH, ne_eq] at wh)
  · refine WP.call (word_sp _ h5) fun x4 ⟨a1,a2⟩=>WP.ret ⟨a1,by simp,fun x hx=>?_⟩
    rw [one_mem hx]
    exact .const _ _ hr a2
  refine WP.bif (fun wh=>?_) (fun wh=>?_)<;>(try simp only [wpH, ne_eq] at wh)
  · refine WP.call (next_sp _ 10 h5 (by omega)) fun x4 ⟨a1,a2,a3,_⟩=>?_
    (repeat' (first | (refine WP.chk (by (first | omega | (simp only [okI, List.length_append, List.length_cons, List.length_nil, length_setD, length_repD] at *; omega))) fun _ => ?_) | ((refine WP.bif (fun wh => ?_) (fun wh => ?_)) <;> (try simp only [wpH, ne_eq] at wh) <;> (try (exfalso; omega)))))
    refine WP.call (next_sp _ 4 a1 (by omega)) fun x5 ⟨b1,b2,b3,_⟩=>?_
    refine WP.call (next_sp _ 8 b1 (by omega)) fun x6 ⟨c1,c2,c3,_⟩=>WP.ret ⟨c1,by simp,fun x hx=>?_⟩
    rw [one_mem hx]
    exact .arith _ _ _ _ (by omega) (by omega) hr ⟨b2,by omega⟩ ⟨c2,by omega⟩
  refine WP.bif (fun wh=>?_) (fun wh=>?_)<;>(try simp only [wpH, ne_eq] at wh)
  · refine WP.ret ⟨h5,by simp,fun x hx=>?_⟩
    rw [one_mem hx]
    exact .io _ _ (.inr rfl) hr
  refine WP.bif (fun wh=>?_) (fun wh=>?_)<;>(try simp only [wpH, ne_eq] at wh)
  · refine WP.call (next_sp _ 3 h5 (by omega)) fun x4 ⟨a1,a2,a3,_⟩=>?_
    (repeat' (first | (refine WP.chk (by (first | omega | (simp only [okI, List.length_append, List.length_cons, List.length_nil, length_setD, length_repD] at *; omega))) fun _ => ?_) | ((refine WP.bif (fun wh => ?_) (fun wh => ?_)) <;> (try simp only [wpH, ne_eq] at wh) <;> (try (exfalso; omega)))))
    refine WP.ret ⟨a1,by simp,fun x hx=>?_⟩
    rw [one_mem hx]
    have:x4.1=0∨x4.1=1∨x4.1=2:=by omega
    have h0:reg 0:=⟨by omega,by omega⟩
    rcases this with h| h| h<;>rw [h]
    · exact .io _ _ (.inl rfl) hr
    · exact .copy _ _ _ (.inr rfl) hr h0
    · exact .copy _ _ _ (.inl rfl) hr h0
  refine WP.join_and (WP.bif (fun wh=>?_) (fun wh=>?_))<;>(try simp only [wpH, ne_eq] at wh)
  · refine WP.call (next_sp _ _ h5 (by omega)) fun x4 ⟨a1,a2,a3,_⟩=>WP.ret ⟨a1,by simp,fun x hx=>?_⟩
    rw [one_mem hx]
    exact .param _ _ hr ⟨a2,a3 (by omega)⟩
  (repeat' (first | (refine WP.chk (by (first | omega | (simp only [okI, List.length_append, List.length_cons, List.length_nil, length_setD, length_repD] at *; omega))) fun _ => ?_) | ((refine WP.bif (fun wh => ?_) (fun wh => ?_)) <;> (try simp only [wpH, ne_eq] at wh) <;> (try (exfalso; omega)))))
  · refine WP.call (next_sp _ _ h5 (by omega)) fun x4 ⟨a1,a2,a3,_⟩=>?_
    have a4:=a3 (by omega)
    (repeat' (first | (refine WP.chk (by (first | omega | (simp only [okI, List.length_append, List.length_cons, List.length_nil, length_setD, length_repD] at *; omega))) fun _ => ?_) | ((refine WP.bif (fun wh => ?_) (fun wh => ?_)) <;> (try simp only [wpH, ne_eq] at wh) <;> (try (exfalso; omega)))))
    generalize hJ:(i+1+x4.1)=J
    have hpj:=hp2 (atD ps J) (atD_mem ⟨by omega,by omega⟩)
    refine WP.loop (fun j=>0≤j.1∧j.1≤3∧okC j.2.1∧(j.2.2.length:Int)≤j.1∧∀x∈j.2.2,WfI ps.length i f.Params f.Slots (fun t=>t= -1) x) (fun j=>3- j.1.toNat) ⟨by simp,by simp,a1,by simp,by simp⟩ ?_
    rintro again ⟨a,c2,out⟩ ⟨b1,b2,b3,b4,b5⟩ ih
    dsimp only at b1 b2 b3 b4 b5 ih ⊢
    (repeat' (first | (refine WP.chk (by (first | omega | (simp only [okI, List.length_append, List.length_cons, List.length_nil, length_setD, length_repD] at *; omega))) fun _ => ?_) | ((refine WP.bif (fun wh => ?_) (fun wh => ?_)) <;> (try simp only [wpH, ne_eq] at wh) <;> (try (exfalso; omega)))))
    · refine WP.call (next_sp _ 8 b3 (by omega)) fun x5 ⟨d1,d2,d3,_⟩=>?_
      (repeat' (first | (refine WP.chk (by (first | omega | (simp only [okI, List.length_append, List.length_cons, List.length_nil, length_setD, length_repD] at *; omega))) fun _ => ?_) | ((refine WP.bif (fun wh => ?_) (fun wh => ?_)) <;> (try simp only [wpH, ne_eq] at wh) <;> (try (exfalso; omega)))))
      · refine WP.call (next_sp _ 4 d1 (by omega)) fun x6 ⟨e1,e2,e3,_⟩=>?_
        (repeat' (first | (refine WP.chk (by (first | omega | (simp only [okI, List.length_append, List.length_cons, List.length_nil, length_setD, length_repD] at *; omega))) fun _ => ?_) | ((refine WP.bif (fun wh => ?_) (fun wh => ?_)) <;> (try simp only [wpH, ne_eq] at wh) <;> (try (exfalso; omega)))))
        refine ih _ ⟨by dsimp only;omega,by dsimp only;omega,e1,by simp;omega,fun x hx=>?_⟩ (by dsimp only;omega)
        rcases List.mem_append.1 hx with hx| hx
        · exact b5 x hx
        · rw [one_mem hx];exact .arg _ _ ⟨by omega,by omega⟩ ⟨e2,by omega⟩
      · exact ih _ ⟨by dsimp only;omega,by dsimp only;omega,d1,by dsimp only;omega,b5⟩ (by dsimp only;omega)
    · refine WP.ret ⟨b3,by simp;omega,fun x hx=>?_⟩
      rcases List.mem_append.1 hx with hx| hx
      · exact b5 x hx
      · rw [one_mem hx];exact .call _ (by omega) (by omega)
  all_goals (refine WP.ret ⟨h5,by simp,fun x hx=>?_⟩;rw [one_mem hx];exact .io _ _ (.inr rfl) hr)
structure WfF (n i par:Int) (f:AFunc):Prop where
  parq:f.Params=par
  slots:f.Slots.length≤6
  rightS:∀s∈f.Slots,rightS s
  code:1≤f.Code.length∧f.Code.length≤800
  instr:∀x∈f.Code,WfI n i par f.Slots (fun t=>inN t f.Code.length) x
  last:(atD f.Code ((f.Code.length:Int)- 1)).Op=23∨(atD f.Code ((f.Code.length:Int)- 1)).Op=24
theorem WfI.done {n i par:Int} {sl:List ASlot} {J:Int→Prop} {x:AInstr} (h:WfI n i par sl (fun t=>t= -1) x) (q1:x.Op=20→0≤x.A) (q2:x.Op=21→0≤x.B):WfI n i par sl J x:=by
  cases h with
  | const a w h1 h2=>exact .const a w h1 h2
  | copy o a b h1 h2 h3=>exact .copy o a b h1 h2 h3
  | arith o a b c h1 h2 h3 h4 h5=>exact .arith o a b c h1 h2 h3 h4 h5
  | io o a h1 h2=>exact .io o a h1 h2
  | load a s h1 h2=>exact .load a s h1 h2
  | store s a h1 h2=>exact .store s a h1 h2
  | move s t h1 h2 h3=>exact .move s t h1 h2 h3
  | arg a r h1 h2=>exact .arg a r h1 h2
  | param a k h1 h2=>exact .param a k h1 h2
  | jump t ht=>have:=q1 rfl;dsimp only at this ht;omega
  | branch a t ha ht=>have:=q2 rfl;dsimp only at this ht;omega
  | call f h1 h2=>exact .call f h1 h2
  | ret=>exact .ret
  | trap w h1=>exact .trap w h1
theorem WfI.jmp {n i par:Int} {sl:List ASlot} {J J':Int→Prop} {x:AInstr} (h:WfI n i par sl J x) (ho:x.Op=20) (t:Int) (ht:J' t):WfI n i par sl J' ⟨x.Op,t,x.B,x.C,x.Imm⟩:=by
  cases h<;>first| exact .jump _ ht| (simp at ho;done)| (exfalso;dsimp only at ho;omega)
theorem WfI.brn {n i par:Int} {sl:List ASlot} {J J':Int→Prop} {x:AInstr} (h:WfI n i par sl J x) (ho:x.Op=21) (t:Int) (ht:J' t):WfI n i par sl J' ⟨x.Op,x.A,t,x.C,x.Imm⟩:=by
  cases h<;>first| (exact .branch _ _ (by assumption) ht)| (simp at ho;done)| (exfalso;dsimp only at ho;omega)
theorem atD_append_left {α:Type} [Inhabited α] {l m:List α} {i:Int} (h:i.toNat<l.length):atD (l++m) i=atD l i:=by
  unfold atD
  rw [List.getD_eq_getElem?_getD,List.getD_eq_getElem?_getD,List.getElem?_append_left h]
theorem atD_last {α:Type} [Inhabited α] {l:List α} {x:α} {i:Int} (h:i=(l.length:Int)):atD (l++[x]) i=x:=by
  subst h
  unfold atD
  rw [List.getD_eq_getElem?_getD,Int.toNat_natCast,List.getElem?_append_right (Nat.le_refl _)]
  simp
theorem atD_setD {α:Type} [Inhabited α] {l:List α} {i j:Int} {v:α} (hi:0≤i∧i<(l.length:Int)) (hj:0≤j):atD (setD l i v) j=if j=i then v else atD l j:=by
  unfold atD setD
  rw [List.getD_eq_getElem?_getD,List.getD_eq_getElem?_getD,List.getElem?_set]
  by_cases h:j=i
  · subst h;rw [if_pos rfl,if_pos rfl,if_pos (by omega)];rfl
  · rw [if_neg h,if_neg (by omega)]
theorem mem_atD {α:Type} [Inhabited α] {l:List α} {x:α} (h:x∈l):∃i:Int,0≤i∧i<(l.length:Int)∧atD l i=x:=by
  obtain ⟨n,hn,rfl⟩:=List.getElem_of_mem h
  exact ⟨n,by omega,by omega,atD_nat hn⟩
theorem function_sp (c:DCodes) (i:Int) (ps:List Int) (most:Int) (hc:okC c) (hi:inN i ps.length) (hm:0≤most∧most≤100) (hps:parR ps):WP (draw_function c i ps most) fun r=>okC r.2∧WfF ps.length i (atD ps i) r.1:=by
  have hps1:=hps.1
  have hpar:=hps.2 _ (atD_mem hi)
  obtain ⟨hi1,hi2⟩:=hi
  unfold draw_function
  (repeat' (first | (refine WP.chk (by (first | omega | (simp only [okI, List.length_append, List.length_cons, List.length_nil, length_setD, length_repD] at *; omega))) fun _ => ?_) | ((refine WP.bif (fun wh => ?_) (fun wh => ?_)) <;> (try simp only [wpH, ne_eq] at wh) <;> (try (exfalso; omega)))))
  refine WP.call (slots_sp c 6 hc (by omega)) fun x1 ⟨h1,h2,h3⟩=>?_
  dsimp only
  refine WP.loop (fun j=>0≤j.1∧okC j.2.1∧(j.2.2.length:Int)≤j.1∧j.1≤x1.1.length∧∀x∈j.2.2,WfI ps.length i (atD ps i) x1.1 (fun t=>t= -1) x) (fun j=>x1.1.length- j.1.toNat) ⟨by simp,h1,by simp,by simp,by simp⟩ ?_
  rintro again1 ⟨s,c2,code⟩ ⟨a1,a2,a3,a4,a5⟩ ih1
  dsimp only at a1 a2 a3 a4 a5 ih1 ⊢
  refine WP.bif (fun wh=>?_) (fun wh=>?_)<;>(try simp only [wpH, ne_eq] at wh)
  · refine WP.call (next_sp _ 4 a2 (by omega)) fun x2 ⟨b1,b2,b3,_⟩=>?_
    (repeat' (first | (refine WP.chk (by (first | omega | (simp only [okI, List.length_append, List.length_cons, List.length_nil, length_setD, length_repD] at *; omega))) fun _ => ?_) | ((refine WP.bif (fun wh => ?_) (fun wh => ?_)) <;> (try simp only [wpH, ne_eq] at wh) <;> (try (exfalso; omega)))))
    · refine WP.call (next_sp _ 4 b1 (by omega)) fun x3 ⟨d1,d2,d3,_⟩=>?_
      (repeat' (first | (refine WP.chk (by (first | omega | (simp only [okI, List.length_append, List.length_cons, List.length_nil, length_setD, length_repD] at *; omega))) fun _ => ?_) | ((refine WP.bif (fun wh => ?_) (fun wh => ?_)) <;> (try simp only [wpH, ne_eq] at wh) <;> (try (exfalso; omega)))))
      refine ih1 _ ⟨by dsimp only;omega,d1,by simp;omega,by dsimp only;omega,fun x hx=>?_⟩ (by dsimp only;omega)
      rcases List.mem_append.1 hx with hx| hx
      · exact a5 x hx
      · rw [one_mem hx];exact .store _ _ ⟨a1,by omega⟩ ⟨d2,by omega⟩
    · exact ih1 _ ⟨by dsimp only;omega,b1,by dsimp only;omega,by dsimp only;omega,a5⟩ (by dsimp only;omega)
  (repeat' (first | (refine WP.chk (by (first | omega | (simp only [okI, List.length_append, List.length_cons, List.length_nil, length_setD, length_repD] at *; omega))) fun _ => ?_) | ((refine WP.bif (fun wh => ?_) (fun wh => ?_)) <;> (try simp only [wpH, ne_eq] at wh) <;> (try (exfalso; omega)))))
  refine WP.call (next_sp _ _ a2 (by omega)) fun x4 ⟨b1,b2,b3,_⟩=>?_
  refine WP.loop (fun j=>0≤j.1∧okC j.2.1∧(j.2.2.length:Int)+5*j.1≤600∧∀x∈j.2.2,WfI ps.length i (atD ps i) x1.1 (fun t=>t= -1) x) (fun j=>j.1.toNat) ⟨b2,b1,by dsimp only;omega,a5⟩ ?_
  rintro again2 ⟨n2,c3,code2⟩ ⟨d1,d2,d3,d4⟩ ih2
  dsimp only at d1 d2 d3 d4 ih2 ⊢
  refine WP.bif (fun wh=>?_) (fun wh=>?_)<;>(try simp only [wpH, ne_eq] at wh)
  · refine WP.call (body_sp c3 ⟨atD ps i,x1.1,[]⟩ i ps d2 (by dsimp only;omega) (by dsimp only;omega) (by omega) hps) fun x5 ⟨e1,e2,e3⟩=>?_
    have e4:∀x∈code2++x5.1,WfI ps.length i (atD ps i) x1.1 (fun t=>t= -1) x:=fun x hx=>(List.mem_append.1 hx).elim (d4 x) (e3 x)
    (repeat' (first | (refine WP.chk (by (first | omega | (simp only [okI, List.length_append, List.length_cons, List.length_nil, length_setD, length_repD] at *; omega))) fun _ => ?_) | ((refine WP.bif (fun wh => ?_) (fun wh => ?_)) <;> (try simp only [wpH, ne_eq] at wh) <;> (try (exfalso; omega)))))
    refine WP.call (next_sp _ 9 e1 (by omega)) fun x6 ⟨f1,f2,f3,_⟩=>?_
    (repeat' (first | (refine WP.chk (by (first | omega | (simp only [okI, List.length_append, List.length_cons, List.length_nil, length_setD, length_repD] at *; omega))) fun _ => ?_) | ((refine WP.bif (fun wh => ?_) (fun wh => ?_)) <;> (try simp only [wpH, ne_eq] at wh) <;> (try (exfalso; omega)))))
    · refine WP.call (next_sp _ 4 f1 (by omega)) fun x7 ⟨g1,g2,g3,_⟩=>?_
      (repeat' (first | (refine WP.chk (by (first | omega | (simp only [okI, List.length_append, List.length_cons, List.length_nil, length_setD, length_repD] at *; omega))) fun _ => ?_) | ((refine WP.bif (fun wh => ?_) (fun wh => ?_)) <;> (try simp only [wpH, ne_eq] at wh) <;> (try (exfalso; omega)))))
      refine ih2 _ ⟨by dsimp only;omega,g1,by simp;omega,fun x hx=>?_⟩ (by dsimp only;omega)
      rcases List.mem_append.1 hx with hx| hx
      · exact e4 x hx
      · rw [one_mem hx];exact .branch _ _ ⟨g2,by omega⟩ rfl
    · refine WP.call (next_sp _ 3 f1 (by omega)) fun x8 ⟨g1,g2,g3,_⟩=>?_
      (repeat' (first | (refine WP.chk (by (first | omega | (simp only [okI, List.length_append, List.length_cons, List.length_nil, length_setD, length_repD] at *; omega))) fun _ => ?_) | ((refine WP.bif (fun wh => ?_) (fun wh => ?_)) <;> (try simp only [wpH, ne_eq] at wh) <;> (try (exfalso; omega)))))
      · refine ih2 _ ⟨by dsimp only;omega,g1,by simp;omega,fun x hx=>?_⟩ (by dsimp only;omega)
        rcases List.mem_append.1 hx with hx| hx
        · exact e4 x hx
        · rw [one_mem hx];exact .jump _ rfl
      · exact ih2 _ ⟨by dsimp only;omega,g1,by simp;omega,e4⟩ (by dsimp only;omega)
    · exact ih2 _ ⟨by dsimp only;omega,f1,by simp;omega,e4⟩ (by dsimp only;omega)
  refine WP.join (fun j=>okC j.1∧WfI ps.length i (atD ps i) x1.1 (fun t=>t= -1) ⟨j.2.1,0,0,0,j.2.2⟩∧(j.2.1=23∨j.2.1=24)) ?_ ?_
  · rintro ⟨c4,o,w⟩ ⟨e1,e2,e3⟩
    dsimp only at e1 e2 e3 ⊢
    (repeat' (first | (refine WP.chk (by (first | omega | (simp only [okI, List.length_append, List.length_cons, List.length_nil, length_setD, length_repD] at *; omega))) fun _ => ?_) | ((refine WP.bif (fun wh => ?_) (fun wh => ?_)) <;> (try simp only [wpH, ne_eq] at wh) <;> (try (exfalso; omega)))))
    generalize hL:code2.length+1=L
    have hlen:(code2++[(⟨o,0,0,0,w⟩:AInstr)]).length=L:=by simp [hL]
    refine WP.loop (fun j=>0≤j.1∧okC j.2.1∧j.1≤L∧j.2.2.length=L∧(∀t:Int,0≤t→t<j.1→WfI ps.length i (atD ps i) x1.1 (fun t=>inN t L) (atD j.2.2 t))∧(∀t:Int,j.1≤t→t<L→WfI ps.length i (atD ps i) x1.1 (fun t=>t= -1) (atD j.2.2 t))∧((atD j.2.2 ((L:Int)- 1)).Op=23∨(atD j.2.2 ((L:Int)- 1)).Op=24)) (fun j=>L- j.1.toNat) ⟨by simp,e1,by dsimp only;omega,hlen,by intro t h1 h2;dsimp only at h2;omega,?_,?_⟩ ?_
    · intro t h1 h2
      dsimp only at h1 ⊢
      by_cases ht:t=(code2.length:Int)
      · rw [atD_last ht];exact e2
      · rw [atD_append_left (by omega)];exact d4 _ (atD_mem ⟨h1,by omega⟩)
    · dsimp only
      rw [atD_last (by omega)]
      exact e3
    rintro again3 ⟨k,c5,code3⟩ ⟨f1,f2,f3,f4,f5,f6,f7⟩ ih3
    dsimp only at f1 f2 f3 f4 f5 f6 f7 ih3 ⊢
    have fin:∀(c6:DCodes) (v:AInstr),okC c6→k<L→WfI ps.length i (atD ps i) x1.1 (fun t=>inN t L) v→v.Op=(atD code3 k).Op→∀(hh:∀j',(0≤j'.1∧okC j'.2.1∧j'.1≤(L:Int)∧j'.2.2.length=L∧(∀t:Int,0≤t→t<j'.1→WfI ps.length i (atD ps i) x1.1 (fun t=>inN t L) (atD j'.2.2 t))∧(∀t:Int,j'.1≤t→t<L→WfI ps.length i (atD ps i) x1.1 (fun t=>t= -1) (atD j'.2.2 t))∧((atD j'.2.2 ((L:Int)- 1)).Op=23∨(atD j'.2.2 ((L:Int)- 1)).Op=24))→L- j'.1.toNat<L- k.toNat→WP (again3 j') fun r=>okC r.2∧WfF ps.length i (atD ps i) r.1),WP (again3 (k+1,c6,setD code3 k v)) fun r=>okC r.2∧WfF ps.length i (atD ps i) r.1:=by
      intro c6 v q1 q2 q3 q4 hh
      refine hh _ ⟨by dsimp only;omega,q1,by dsimp only;omega,by dsimp only;rw [length_setD,f4],fun t h1 h2=>?_,fun t h1 h2=>?_,?_⟩ (by dsimp only;omega)
      · dsimp only at h2 ⊢
        rw [atD_setD ⟨f1,by omega⟩ h1]
        split
        · exact q3
        · exact f5 t h1 (by omega)
      · dsimp only at h1 ⊢
        rw [atD_setD ⟨f1,by omega⟩ (by omega),if_neg (by omega)]
        exact f6 t (by omega) h2
      · dsimp only
        rw [atD_setD ⟨f1,by omega⟩ (by omega)]
        split
        · rename_i h;rw [q4,←h];exact f7
        · exact f7
    have fin2:∀(c6:DCodes),okC c6→k<L→WfI ps.length i (atD ps i) x1.1 (fun t=>inN t L) (atD code3 k)→WP (again3 (k+1,c6,code3)) fun r=>okC r.2∧WfF ps.length i (atD ps i) r.1:=by
      intro c6 q1 q2 q3
      refine ih3 _ ⟨by dsimp only;omega,q1,by dsimp only;omega,f4,fun t h1 h2=>?_,fun t h1 h2=>?_,f7⟩ (by dsimp only;omega)
      · dsimp only at h2
        by_cases ht:t=k
        · rw [ht];exact q3
        · exact f5 t h1 (by omega)
      · dsimp only at h1;exact f6 t (by omega) h2
    refine WP.bif (fun wh=>?_) (fun wh=>?_)<;>(try simp only [wpH, ne_eq] at wh)
    · rw [f4] at wh
      have hkL:=wh
      have f8:=f6 k (by omega) wh
      refine WP.call (next_sp _ 8 f2 (by omega)) fun x9 ⟨g1,g2,g3,_⟩=>?_
      (repeat' (first | (refine WP.chk (by (first | omega | (simp only [okI, List.length_append, List.length_cons, List.length_nil, length_setD, length_repD] at *; omega))) fun _ => ?_) | ((refine WP.bif (fun wh => ?_) (fun wh => ?_)) <;> (try simp only [wpH, ne_eq] at wh) <;> (try (exfalso; omega)))))
      refine WP.join (fun t=>inN t L) ?_ ?_
      · intro t ht
        (repeat' (first | (refine WP.chk (by (first | omega | (simp only [okI, List.length_append, List.length_cons, List.length_nil, length_setD, length_repD] at *; omega))) fun _ => ?_) | ((refine WP.bif (fun wh => ?_) (fun wh => ?_)) <;> (try simp only [wpH, ne_eq] at wh) <;> (try (exfalso; omega)))))
        · exact fin _ _ g1 hkL (f8.jmp (by assumption) t ht) rfl ih3
        · exact fin2 _ g1 hkL (f8.done (fun _=>by omega) (fun h=>by omega))
        · exact fin _ _ g1 hkL (f8.brn (by assumption) t ht) rfl ih3
        · exact fin2 _ g1 hkL (f8.done (fun h=>by omega) (fun _=>by omega))
        · exact fin2 _ g1 hkL (f8.done (fun h=>by omega) (fun h=>by omega))
      · intro k3 hk3
        (repeat' (first | (refine WP.chk (by (first | omega | (simp only [okI, List.length_append, List.length_cons, List.length_nil, length_setD, length_repD] at *; omega))) fun _ => ?_) | ((refine WP.bif (fun wh => ?_) (fun wh => ?_)) <;> (try simp only [wpH, ne_eq] at wh) <;> (try (exfalso; omega)))))
        all_goals (refine hk3 _ ⟨?_,?_⟩<;>omega)
    · refine WP.ret ⟨f2,rfl,?_,h3,⟨by dsimp only;omega,by dsimp only;omega⟩,fun x hx=>?_,?_⟩
      · dsimp only;omega
      · obtain ⟨t,h1,h2,rfl⟩:=mem_atD hx
        dsimp only at h2 ⊢
        rw [f4]
        exact f5 t h1 (by omega)
      · dsimp only;rw [f4];exact f7
  · intro k1 hk1
    refine WP.call (next_sp _ 12 d2 (by omega)) fun x10 ⟨e1,e2,e3,_⟩=>?_
    (repeat' (first | (refine WP.chk (by (first | omega | (simp only [okI, List.length_append, List.length_cons, List.length_nil, length_setD, length_repD] at *; omega))) fun _ => ?_) | ((refine WP.bif (fun wh => ?_) (fun wh => ?_)) <;> (try simp only [wpH, ne_eq] at wh) <;> (try (exfalso; omega)))))
    · refine WP.call (word_sp _ e1) fun x11 ⟨g1,g2⟩=>hk1 _ ⟨g1,.trap _ g2,.inr rfl⟩
    · exact hk1 _ ⟨e1,.ret,.inl rfl⟩
structure WfP (p:AProgram):Prop where
  len:1≤p.Funcs.length∧p.Funcs.length≤80
  entry:(atD p.Funcs 0).Params=0
  par:∀f∈p.Funcs,0≤f.Params∧f.Params≤3
  func:∀i:Int,0≤i→i<p.Funcs.length→WfF p.Funcs.length i (atD p.Funcs i).Params (atD p.Funcs i)
theorem program_sp (c:DCodes) (funcs most:Int) (hc:okC c) (hf:1≤funcs∧funcs≤80) (hm:0≤most∧most≤100):WP (draw_Program c funcs most) fun r=>okC r.2∧WfP r.1∧(r.1.Funcs.length:Int)≤funcs:=by
  unfold draw_Program
  refine WP.call (next_sp c funcs hc (by omega)) fun x1 ⟨h1,h2,h3,_⟩=>?_
  have h4:=h3 (by omega)
  refine WP.loop (fun j=>0≤j.1∧okC j.2.1∧1≤j.2.2.length∧(j.2.2.length:Int)+j.1≤funcs∧atD j.2.2 0=0∧∀x∈j.2.2,0≤x∧x≤3) (fun j=>j.1.toNat) ⟨h2,h1,by simp,by simp;omega,rfl,by simp⟩ ?_
  rintro again1 ⟨n,c2,ps⟩ ⟨a1,a2,a3,a4,a5,a6⟩ ih
  dsimp only at a1 a2 a3 a4 a5 a6 ih ⊢
  refine WP.bif (fun wh=>?_) (fun wh=>?_)<;>(try simp only [wpH, ne_eq] at wh)
  · refine WP.call (next_sp _ 4 a2 (by omega)) fun x2 ⟨b1,b2,b3,_⟩=>?_
    (repeat' (first | (refine WP.chk (by (first | omega | (simp only [okI, List.length_append, List.length_cons, List.length_nil, length_setD, length_repD] at *; omega))) fun _ => ?_) | ((refine WP.bif (fun wh => ?_) (fun wh => ?_)) <;> (try simp only [wpH, ne_eq] at wh) <;> (try (exfalso; omega)))))
    refine ih _ ⟨by dsimp only;omega,b1,by simp,by simp;omega,?_,fun x hx=>?_⟩ (by dsimp only;omega)
    · dsimp only;rw [atD_append_left (by show 0<_;omega)];exact a5
    · rcases List.mem_append.1 hx with hx| hx
      · exact a6 x hx
      · rw [one_mem hx];omega
  refine WP.loop (fun j=>j.1=ps∧0≤j.2.1∧okC j.2.2.1∧(j.2.2.2.length:Int)=j.2.1∧j.2.1≤ps.length∧∀t:Int,0≤t→t<j.2.1→WfF ps.length t (atD ps t) (atD j.2.2.2 t)) (fun j=>ps.length- j.2.1.toNat) ⟨rfl,by simp,a2,by simp,by simp,by intro t h1 h2;dsimp only at h2;omega⟩ ?_
  rintro again2 ⟨ps2,i,c3,fs⟩ ⟨rfl,d2,d3,d4,d5,d6⟩ ih2
  dsimp only at a3 a4 a5 a6 d2 d3 d4 d5 d6 ih2 ⊢
  refine WP.bif (fun wh=>?_) (fun wh=>?_)<;>(try simp only [wpH, ne_eq] at wh)
  · (repeat' (first | (refine WP.chk (by (first | omega | (simp only [okI, List.length_append, List.length_cons, List.length_nil, length_setD, length_repD] at *; omega))) fun _ => ?_) | ((refine WP.bif (fun wh => ?_) (fun wh => ?_)) <;> (try simp only [wpH, ne_eq] at wh) <;> (try (exfalso; omega)))))
    refine WP.call (function_sp c3 i _ most d3 ⟨d2,wh⟩ hm ⟨by omega,a6⟩) fun x3 ⟨e1,e2⟩=>?_
    (repeat' (first | (refine WP.chk (by (first | omega | (simp only [okI, List.length_append, List.length_cons, List.length_nil, length_setD, length_repD] at *; omega))) fun _ => ?_) | ((refine WP.bif (fun wh => ?_) (fun wh => ?_)) <;> (try simp only [wpH, ne_eq] at wh) <;> (try (exfalso; omega)))))
    refine ih2 _ ⟨rfl,by dsimp only;omega,e1,by simp;omega,by dsimp only;omega,fun t h1 h2=>?_⟩ (by dsimp only;omega)
    dsimp only at h2 ⊢
    by_cases ht:t=i
    · rw [atD_last (by omega),ht];exact e2
    · rw [atD_append_left (by omega)];exact d6 t h1 (by omega)
  · have e:(fs.length:Int)=ps2.length:=by omega
    have hp:∀t:Int,0≤t→t<fs.length→(atD fs t).Params=atD ps2 t:=fun t h1 h2=>(d6 t h1 (by omega)).parq
    refine WP.ret ⟨d3,⟨⟨by dsimp only;omega,by dsimp only;omega⟩,?_,fun f hf=>?_,fun t h1 h2=>?_⟩,by dsimp only;omega⟩
    · dsimp only;rw [hp 0 (by omega) (by omega)];exact a5
    · obtain ⟨t,h1,h2,rfl⟩:=mem_atD hf
      dsimp only at h2
      rw [hp t h1 h2]
      exact a6 _ (atD_mem ⟨h1,by omega⟩)
    · dsimp only at h2 ⊢
      rw [hp t h1 h2,e]
      exact d6 t h1 (by omega)
def isU8 (cs:List Int):Prop:=∀x∈cs,0≤x∧x≤255
theorem take_atD {α:Type} [Inhabited α] {l:List α} {k:Int} (h:0≤k∧k<(l.length:Int)):l.take (k+1).toNat=l.take k.toNat++[atD l k]:=by
  have h1:k.toNat<l.length:=by omega
  rw [show (k+1).toNat=k.toNat+1 by omega,List.take_succ_eq_append_getElem h1]
  congr 1
  have:=atD_nat h1
  rw [Int.toNat_of_nonneg h.1] at this
  rw [this]
theorem take_all {α:Type} {l:List α} {k:Int} (h:(l.length:Int)≤k):l.take k.toNat=l:=List.take_of_length_le (by omega)
def sizeB (n:Int):Bool:=decide (n=1∨n=2∨n=4∨n=8∨n=16)
theorem size_sp (n:Int):WP (r02_Size n) (·=sizeB n):=by
  unfold r02_Size sizeB
  (repeat' (first | (refine WP.chk (by (first | omega | (simp only [okI, List.length_append, List.length_cons, List.length_nil, length_setD, length_repD] at *; omega))) fun _ => ?_) | ((refine WP.bif (fun wh => ?_) (fun wh => ?_)) <;> (try simp only [wpH, ne_eq] at wh) <;> (try (exfalso; omega)))))
  all_goals (refine WP.ret ?_;simp_all)
def powL:Nat→Int→List Int
  | 0,_=>[]
  | n+1,k=>k::powL n (k*2)
def powB (n:Int):Bool:=decide (n∈powL 25 1)
theorem power_sp (n:Int):WP (r03_Power n) (·=powB n):=by
  unfold r03_Power powB
  refine WP.loop (fun j=>∃m:Nat,m≤25∧j=2 ^ (25- m)∧(n∈powL 25 1↔n∈powL m j)) (fun j=>(33554433- j).toNat) ⟨25,by omega,rfl,Iff.rfl⟩ ?_
  rintro again j ⟨m,hm,hj,hi⟩ ih
  have hj0:0<j:=by rw [hj];exact Int.pow_pos (by omega)
  refine WP.bif (fun wh=>?_) (fun wh=>?_)<;>(try simp only [wpH, ne_eq] at wh)
  · obtain ⟨m',rfl⟩:∃m',m=m'+1:=by
      cases m with
      | zero=>exfalso;rw [hj] at wh;revert wh;decide
      | succ m'=>exact ⟨m',rfl⟩
    (repeat' (first | (refine WP.chk (by (first | omega | (simp only [okI, List.length_append, List.length_cons, List.length_nil, length_setD, length_repD] at *; omega))) fun _ => ?_) | ((refine WP.bif (fun wh => ?_) (fun wh => ?_)) <;> (try simp only [wpH, ne_eq] at wh) <;> (try (exfalso; omega)))))
    · refine WP.ret ?_
      rw [eq_comm,decide_eq_true_eq,hi]
      rw [wh]
      exact List.mem_cons_self
    · refine ih _ ⟨m',by omega,?_,?_⟩ (by omega)
      · rw [hj,←Int.pow_succ];congr 1;omega
      · rw [hi]
        exact ⟨fun q=>(List.mem_cons.1 q).resolve_left wh,fun q=>List.mem_cons_of_mem _ q⟩
  · have hm0:m=0:=by
      have:m=0∨1≤m:=by omega
      rcases this with h| h
      · exact h
      · exfalso
        have h2:2 ^ (25- m)≤2 ^ 24:=Nat.pow_le_pow_right (by omega) (by omega)
        have h3:(2:Int) ^ (25- m)=((2 ^ (25- m):Nat):Int):=by rw [Int.natCast_pow];rfl
        rw [←hj] at h3
        omega
    subst hm0
    refine WP.ret ?_
    rw [eq_comm,decide_eq_false_iff_not,hi]
    exact List.not_mem_nil
theorem powB_small {n:Int} (h:n=1∨n=2∨n=4∨n=8∨n=16∨n=32∨n=64):powB n=true:=by
  rcases h with h| h| h| h| h| h| h<;>subst h<;>decide
def slotB (s:ASlot):Bool:=sizeB s.Size&&powB s.Align
def slotsE (s:List ASlot):Int:=if 512<s.length then 3 else if s.all slotB then 0 else 5
theorem slots3_sp (s:List ASlot) (hl:s.length≤1000000000):WP (r03_Slots s) (·=slotsE s):=by
  unfold r03_Slots slotsE
  refine WP.bif (fun wh=>?_) (fun wh=>?_)<;>(try simp only [wpH, ne_eq] at wh)
  · exact WP.ret (by rw [if_pos (by omega)])
  rw [if_neg (by omega)]
  refine WP.loop (fun j=>0≤j∧j≤s.length∧(s.take j.toNat).all slotB=true) (fun j=>s.length- j.toNat) ⟨by omega,by omega,rfl⟩ ?_
  rintro again i ⟨h1,h2,h3⟩ ih
  refine WP.bif (fun wh=>?_) (fun wh=>?_)<;>(try simp only [wpH, ne_eq] at wh)
  · have hm:atD s i∈s:=atD_mem ⟨h1,wh⟩
    have hbad:slotB (atD s i)=false→(if s.all slotB=true then (0:Int) else 5)=5:=fun hb=>by
      rw [if_neg]
      intro ha
      rw [List.all_eq_true.1 ha _ hm] at hb
      cases hb
    (repeat' (first | (refine WP.chk (by (first | omega | (simp only [okI, List.length_append, List.length_cons, List.length_nil, length_setD, length_repD] at *; omega))) fun _ => ?_) | ((refine WP.bif (fun wh => ?_) (fun wh => ?_)) <;> (try simp only [wpH, ne_eq] at wh) <;> (try (exfalso; omega)))))
    refine WP.call (size_sp _) ?_
    rintro _ rfl
    refine WP.bif (fun wh=>?_) (fun wh=>?_)<;>(try simp only [wpH, ne_eq] at wh)
    · exact WP.ret (hbad (by unfold slotB;rw [wh];rfl)).symm
    have hs:=wh
    (repeat' (first | (refine WP.chk (by (first | omega | (simp only [okI, List.length_append, List.length_cons, List.length_nil, length_setD, length_repD] at *; omega))) fun _ => ?_) | ((refine WP.bif (fun wh => ?_) (fun wh => ?_)) <;> (try simp only [wpH, ne_eq] at wh) <;> (try (exfalso; omega)))))
    refine WP.call (power_sp _) ?_
    rintro _ rfl
    refine WP.bif (fun wh=>?_) (fun wh=>?_)<;>(try simp only [wpH, ne_eq] at wh)
    · exact WP.ret (hbad (by unfold slotB;rw [wh];simp)).symm
    have hp:=wh
    (repeat' (first | (refine WP.chk (by (first | omega | (simp only [okI, List.length_append, List.length_cons, List.length_nil, length_setD, length_repD] at *; omega))) fun _ => ?_) | ((refine WP.bif (fun wh => ?_) (fun wh => ?_)) <;> (try simp only [wpH, ne_eq] at wh) <;> (try (exfalso; omega)))))
    refine ih _ ⟨by omega,by omega,?_⟩ (by omega)
    rw [take_atD ⟨h1,by assumption⟩,List.all_append,h3]
    simp [slotB,hs,hp]
  · refine WP.ret ?_
    rw [take_all (by omega)] at h3
    rw [if_pos h3]
theorem rightS.slotB {s:ASlot} (h:rightS s):slotB s=true:=by
  unfold Go.Proofs.YtgbkhjllbgmdcaaGreat.Q.slotB
  rw [powB_small h.2]
  simp [sizeB,h.1]
theorem slotsE_right {s:List ASlot} (hl:s.length≤512) (h:∀x∈s,rightS x):slotsE s=0:=by
  unfold slotsE
  rw [if_neg (by omega),if_pos (List.all_eq_true.2 fun x hx=>(h x hx).slotB)]
def alignS (s:List ASlot):Int:=s.foldl (fun a x=>max a x.Align) 16
theorem align3_sp (s:List ASlot) (hl:s.length≤1000000000):WP (r03_Align s) (·=if slotsE s=0 then alignS s else 16):=by
  unfold r03_Align
  refine WP.call (slots3_sp s hl) ?_
  rintro _ rfl
  refine WP.bif (fun wh=>?_) (fun wh=>?_)<;>(try simp only [wpH, ne_eq] at wh)
  · exact WP.ret (by rw [if_neg wh])
  rw [if_pos wh]
  refine WP.loop (fun j=>0≤j.2∧j.2≤s.length∧j.1=alignS (s.take j.2.toNat)) (fun j=>s.length- j.2.toNat) ⟨by simp,by simp,rfl⟩ ?_
  rintro again ⟨a,i⟩ ⟨h1,h2,h3⟩ ih
  dsimp only at h1 h2 h3 ih ⊢
  (repeat' (first | (refine WP.chk (by (first | omega | (simp only [okI, List.length_append, List.length_cons, List.length_nil, length_setD, length_repD] at *; omega))) fun _ => ?_) | ((refine WP.bif (fun wh => ?_) (fun wh => ?_)) <;> (try simp only [wpH, ne_eq] at wh) <;> (try (exfalso; omega)))))
  · refine ih _ ⟨by dsimp only;omega,by dsimp only;omega,?_⟩ (by dsimp only;omega)
    dsimp only
    rw [take_atD ⟨h1,by assumption⟩,alignS,List.foldl_append,h3]
    rfl
  · refine WP.ret ?_
    rw [h3,take_all (by omega)]
def alR (a:Int):Prop:=a=16∨a=32∨a=64
theorem alignS_R {s:List ASlot} (h:∀x∈s,rightS x):alR (alignS s)∧∀x∈s,x.Align≤alignS s:=by
  have key:∀(l:List ASlot) (a:Int),alR a→(∀x∈l,rightS x)→alR (l.foldl (fun a x=>max a x.Align) a)∧a≤l.foldl (fun a x=>max a x.Align) a∧∀x∈l,x.Align≤l.foldl (fun a x=>max a x.Align) a:=by
    intro l
    induction l with
    | nil=>intro a ha _;exact ⟨ha,Int.le_refl _,by simp⟩
    | cons y r ih=>
      intro a ha hy
      have h1:=(hy y List.mem_cons_self).2
      have h2:alR (max a y.Align):=by unfold alR at ha ⊢;omega
      obtain ⟨h3,h4,h5⟩:=ih _ h2 fun x hx=>hy x (List.mem_cons_of_mem _ hx)
      refine ⟨h3,by rw [List.foldl_cons];omega,fun x hx=>?_⟩
      rw [List.foldl_cons]
      rcases List.mem_cons.1 hx with rfl| hx
      · omega
      · exact h5 x hx
  obtain ⟨h1,_,h2⟩:=key s 16 (.inl rfl) h
  exact ⟨h1,h2⟩
def alignP (p:AProgram):Int:=p.Funcs.foldl (fun a f=>max a (alignS f.Slots)) 16
theorem WfP.slotsR {p:AProgram} (hp:WfP p) {f:AFunc} (hf:f∈p.Funcs):f.Slots.length≤6∧∀x∈f.Slots,rightS x:=by
  obtain ⟨t,h1,h2,rfl⟩:=mem_atD hf
  exact ⟨(hp.func t h1 h2).slots,(hp.func t h1 h2).rightS⟩
theorem align5_sp (p:AProgram) (hp:WfP p):WP (r05_Align p) (·=alignP p):=by
  unfold r05_Align
  have hl:=hp.len
  refine WP.loop (fun j=>0≤j.2∧j.2≤p.Funcs.length∧j.1=alignP ⟨p.Funcs.take j.2.toNat⟩) (fun j=>p.Funcs.length- j.2.toNat) ⟨by simp,by simp,rfl⟩ ?_
  rintro again ⟨a,i⟩ ⟨h1,h2,h3⟩ ih
  dsimp only at h1 h2 h3 ih ⊢
  (repeat' (first | (refine WP.chk (by (first | omega | (simp only [okI, List.length_append, List.length_cons, List.length_nil, length_setD, length_repD] at *; omega))) fun _ => ?_) | ((refine WP.bif (fun wh => ?_) (fun wh => ?_)) <;> (try simp only [wpH, ne_eq] at wh) <;> (try (exfalso; omega)))))
  · obtain ⟨h4,h5⟩:=hp.slotsR (atD_mem (l:=p.Funcs) ⟨h1,by assumption⟩)
    refine WP.call (align3_sp _ (by omega)) ?_
    rintro _ rfl
    (repeat' (first | (refine WP.chk (by (first | omega | (simp only [okI, List.length_append, List.length_cons, List.length_nil, length_setD, length_repD] at *; omega))) fun _ => ?_) | ((refine WP.bif (fun wh => ?_) (fun wh => ?_)) <;> (try simp only [wpH, ne_eq] at wh) <;> (try (exfalso; omega)))))
    refine ih _ ⟨by dsimp only;omega,by dsimp only;omega,?_⟩ (by dsimp only;omega)
    dsimp only
    rw [take_atD ⟨h1,by assumption⟩,alignP,List.foldl_append,h3,if_pos (slotsE_right (by omega) h5)]
    rfl
  · refine WP.ret ?_
    rw [h3,take_all (by omega)]
theorem alignP_R {p:AProgram} (hp:WfP p):alR (alignP p)∧∀f∈p.Funcs,alignS f.Slots≤alignP p:=by
  have key:∀(l:List AFunc) (a:Int),alR a→(∀f∈l,alR (alignS f.Slots))→alR (l.foldl (fun a f=>max a (alignS f.Slots)) a)∧a≤l.foldl (fun a f=>max a (alignS f.Slots)) a∧∀f∈l,alignS f.Slots≤l.foldl (fun a f=>max a (alignS f.Slots)) a:=by
    intro l
    induction l with
    | nil=>intro a ha _;exact ⟨ha,Int.le_refl _,by simp⟩
    | cons y r ih=>
      intro a ha hy
      have h1:=hy y List.mem_cons_self
      have h2:alR (max a (alignS y.Slots)):=by unfold alR at ha h1 ⊢;omega
      obtain ⟨h3,h4,h5⟩:=ih _ h2 fun x hx=>hy x (List.mem_cons_of_mem _ hx)
      refine ⟨h3,by rw [List.foldl_cons];omega,fun x hx=>?_⟩
      rw [List.foldl_cons]
      rcases List.mem_cons.1 hx with rfl| hx
      · omega
      · exact h5 x hx
  obtain ⟨h1,_,h2⟩:=key p.Funcs 16 (.inl rfl) fun f hf=>(alignS_R (hp.slotsR hf).2).1
  exact ⟨h1,h2⟩
def needA (p:AProgram) (x:AInstr):Int:=if x.Op=18 then x.A+1 else if x.Op=22 then (atD p.Funcs x.A).Params else 0
def argsN (p:AProgram) (l:List AInstr):Int:=l.foldl (fun n x=>max n (needA p x)) 0
theorem argsN_snoc (p:AProgram) (l:List AInstr) (x:AInstr):argsN p (l++[x])=max (argsN p l) (needA p x):=by
  unfold argsN;rw [List.foldl_append];rfl
theorem WfI.need {p:AProgram} (hp:WfP p) {i par:Int} {sl:List ASlot} {J:Int→Prop} {x:AInstr} (hi:0≤i) (h:WfI p.Funcs.length i par sl J x):0≤needA p x∧needA p x≤8∧(x.Op=18→0≤x.A∧x.A<8)∧(x.Op=22→i<x.A∧x.A<p.Funcs.length):=by
  cases h with
  | arg a r ha hr=>obtain ⟨h1,h2⟩:=ha;simp [needA];omega
  | call f h1 h2=>
    have:=hp.par _ (atD_mem (l:=p.Funcs) (i:=f) ⟨by omega,h2⟩)
    simp [needA];omega
  | copy o a b ho ha hb=>
    have h1:¬o=18:=by omega
    have h2:¬o=22:=by omega
    simp [needA,h1,h2]
  | arith o a b c h1 h2=>
    have h3:¬o=18:=by omega
    have h4:¬o=22:=by omega
    simp [needA,h3,h4]
  | io o a ho=>
    have h1:¬o=18:=by omega
    have h2:¬o=22:=by omega
    simp [needA,h1,h2]
  | _=>simp [needA]
theorem WfP.at_ {p:AProgram} (hp:WfP p) {i k:Int} (hi:inN i p.Funcs.length) (hk:inN k (atD p.Funcs i).Code.length):WfI p.Funcs.length i (atD p.Funcs i).Params (atD p.Funcs i).Slots (fun t=>inN t (atD p.Funcs i).Code.length) (atD (atD p.Funcs i).Code k):=(hp.func i hi.1 hi.2).instr _ (atD_mem hk)
theorem argsN_R {p:AProgram} (hp:WfP p) {i:Int} (hi:inN i p.Funcs.length) {l:List AInstr} (hl:∀x∈l,x∈(atD p.Funcs i).Code):0≤argsN p l∧argsN p l≤8∧(∀x∈l,needA p x≤argsN p l)∧(argsN p l=0∨∃x∈l,needA p x=argsN p l):=by
  have key:∀(l:List AInstr) (a:Int),0≤a→a≤8→(∀x∈l,0≤needA p x∧needA p x≤8)→a≤l.foldl (fun n x=>max n (needA p x)) a∧l.foldl (fun n x=>max n (needA p x)) a≤8∧(∀x∈l,needA p x≤l.foldl (fun n x=>max n (needA p x)) a)∧(l.foldl (fun n x=>max n (needA p x)) a=a∨∃x∈l,needA p x=l.foldl (fun n x=>max n (needA p x)) a):=by
    intro l
    induction l with
    | nil=>intro a h1 h2 _;exact ⟨Int.le_refl _,h2,by simp,.inl rfl⟩
    | cons y r ih=>
      intro a h1 h2 h3
      have h4:=h3 y List.mem_cons_self
      obtain ⟨h5,h6,h7,h8⟩:=ih (max a (needA p y)) (by omega) (by omega) fun x hx=>h3 x (List.mem_cons_of_mem _ hx)
      rw [List.foldl_cons]
      refine ⟨by omega,h6,fun x hx=>?_,?_⟩
      · rcases List.mem_cons.1 hx with rfl| hx
        · omega
        · exact h7 x hx
      · rcases h8 with h8| ⟨x,hx,h8⟩
        · rcases Int.le_total a (needA p y) with h9| h9
          · exact .inr ⟨y,List.mem_cons_self,by omega⟩
          · exact .inl (by omega)
        · exact .inr ⟨x,List.mem_cons_of_mem _ hx,h8⟩
  obtain ⟨h1,h2,h3,h4⟩:=key l 0 (by omega) (by omega) fun x hx=>by
    have:=((hp.func i hi.1 hi.2).instr x (hl x hx)).need hp hi.1
    omega
  exact ⟨h1,h2,h3,h4⟩
theorem args24_sp (p:AProgram) (i:Int) (hp:WfP p) (hi:inN i p.Funcs.length):WP (pack_Args p i) (·=16*argsN p (atD p.Funcs i).Code):=by
  unfold pack_Args
  obtain ⟨hi1,hi2⟩:=hi
  have hc:=(hp.func i hi1 hi2).code
  (repeat' (first | (refine WP.chk (by (first | omega | (simp only [okI, List.length_append, List.length_cons, List.length_nil, length_setD, length_repD] at *; omega))) fun _ => ?_) | ((refine WP.bif (fun wh => ?_) (fun wh => ?_)) <;> (try simp only [wpH, ne_eq] at wh) <;> (try (exfalso; omega)))))
  generalize hf:atD p.Funcs i=f at*
  have hT:∀k:Int,0≤argsN p (f.Code.take k.toNat)∧argsN p (f.Code.take k.toNat)≤8:=fun k=>by
    have:=argsN_R hp ⟨hi1,hi2⟩ (l:=f.Code.take k.toNat) fun x hx=>by rw [hf];exact List.take_subset _ _ hx
    omega
  refine WP.loop (fun j=>0≤j.2∧j.2≤f.Code.length∧j.1=argsN p (f.Code.take j.2.toNat)) (fun j=>f.Code.length- j.2.toNat) ⟨by simp,by simp,rfl⟩ ?_
  rintro again ⟨n,k⟩ ⟨h1,h2,h3⟩ ih
  dsimp only at h1 h2 h3 ih ⊢
  have hTk:=hT k
  rw [←h3] at hTk
  refine WP.bif (fun wh=>?_) (fun wh=>?_)<;>(try simp only [wpH, ne_eq] at wh)
  · have hN:=(hp.at_ (i:=i) (k:=k) ⟨hi1,hi2⟩ ⟨h1,by rw [hf];exact wh⟩).need hp hi1
    rw [hf] at hN
    have hs:∀m,needA p (atD f.Code k)=m→max n m=argsN p (f.Code.take (k+1).toNat):=fun m hm=>by
      rw [take_atD ⟨h1,wh⟩,argsN_snoc,←h3,hm]
    generalize hx:atD f.Code k=x at*
    (repeat' (first | (refine WP.chk (by (first | omega | (simp only [okI, List.length_append, List.length_cons, List.length_nil, length_setD, length_repD] at *; omega))) fun _ => ?_) | ((refine WP.bif (fun wh => ?_) (fun wh => ?_)) <;> (try simp only [wpH, ne_eq] at wh) <;> (try (exfalso; omega)))))
    · exact ih _ ⟨by dsimp only;omega,by dsimp only;omega,hs _ (by unfold needA;rw [if_pos (by assumption)])⟩ (by dsimp only;omega)
    · exact ih _ ⟨by dsimp only;omega,by dsimp only;omega,hs _ (by unfold needA;rw [if_neg (by assumption),if_pos (by assumption)])⟩ (by dsimp only;omega)
    · refine ih _ ⟨by dsimp only;omega,by dsimp only;omega,?_⟩ (by dsimp only;omega)
      have:=hs 0 (by unfold needA;rw [if_neg (by assumption),if_neg (by assumption)])
      dsimp only
      omega
  · (repeat' (first | (refine WP.chk (by (first | omega | (simp only [okI, List.length_append, List.length_cons, List.length_nil, length_setD, length_repD] at *; omega))) fun _ => ?_) | ((refine WP.bif (fun wh => ?_) (fun wh => ?_)) <;> (try simp only [wpH, ne_eq] at wh) <;> (try (exfalso; omega)))))
    refine WP.ret ?_
    rw [h3,take_all (by omega)]
theorem mem_powL {n:Int}:∀{m:Nat} {k:Int},n∈powL m k↔∃j:Nat,j<m∧n=k*2 ^ j
  | 0,k=>by simp [powL]
  | m+1,k=>by
    unfold powL
    rw [List.mem_cons,mem_powL]
    constructor
    · rintro (rfl| ⟨j,h1,rfl⟩)
      · exact ⟨0,by omega,by simp⟩
      · exact ⟨j+1,by omega,by rw [Int.pow_succ,Int.mul_assoc,Int.mul_comm 2]⟩
    · rintro ⟨j,h1,rfl⟩
      cases j with
      | zero=>exact .inl (by simp)
      | succ j=>exact .inr ⟨j,by omega,by rw [Int.pow_succ,Int.mul_assoc,Int.mul_comm 2]⟩
theorem powB_eq (n:Int):powB n=Go.Proofs.YtgbkhjllbgmdcaaGreat.powB n:=by
  rw [Bool.eq_iff_iff,Go.Proofs.YtgbkhjllbgmdcaaGreat.powB_iff]
  unfold powB
  rw [decide_eq_true_eq,mem_powL]
  constructor
  · rintro ⟨j,h1,h2⟩;exact ⟨j,by omega,by rw [h2,Int.one_mul,Int.natCast_pow];rfl⟩
  · rintro ⟨j,h1,h2⟩;exact ⟨j,by omega,by rw [h2,Int.one_mul,Int.natCast_pow];rfl⟩
theorem powB_bd {n:Int} (h:powB n=true):1≤n∧n≤16777216:=powB_pos (by rw [←powB_eq];exact h)
theorem ebound_sp (n:Int):WP (extent_bound n) (·=boundB n):=by
  unfold extent_bound boundB
  (repeat' (first | (refine WP.chk (by (first | omega | (simp only [okI, List.length_append, List.length_cons, List.length_nil, length_setD, length_repD] at *; omega))) fun _ => ?_) | ((refine WP.bif (fun wh => ?_) (fun wh => ?_)) <;> (try simp only [wpH, ne_eq] at wh) <;> (try (exfalso; omega)))))
  · exact WP.ret (by simp [wh])
  · exact WP.ret (by simp;omega)
theorem rbound_sp (n:Int):WP (r03_Bound n) (·=boundB n):=by
  unfold r03_Bound boundB
  (repeat' (first | (refine WP.chk (by (first | omega | (simp only [okI, List.length_append, List.length_cons, List.length_nil, length_setD, length_repD] at *; omega))) fun _ => ?_) | ((refine WP.bif (fun wh => ?_) (fun wh => ?_)) <;> (try simp only [wpH, ne_eq] at wh) <;> (try (exfalso; omega)))))
  · exact WP.ret (by simp [wh])
  · exact WP.ret (by simp;omega)
theorem epower_sp (n:Int):WP (extent_Power n) (·=powB n):=by
  unfold extent_Power
  rw [powB_eq]
  unfold Go.Proofs.YtgbkhjllbgmdcaaGreat.powB
  (repeat' (first | (refine WP.chk (by (first | omega | (simp only [okI, List.length_append, List.length_cons, List.length_nil, length_setD, length_repD] at *; omega))) fun _ => ?_) | ((refine WP.bif (fun wh => ?_) (fun wh => ?_)) <;> (try simp only [wpH, ne_eq] at wh) <;> (try (exfalso; omega)))))
  · refine WP.ret ?_
    have h1:1≤n:=by omega
    have h2:n≤16777216:=by omega
    simp only [h1,h2,decide_true,Bool.true_and]
    rfl
  · exact WP.ret (by simp;omega)
  · exact WP.ret (by simp;omega)
theorem eup_sp (n a:Int) (h0:0≤n) (h1:n≤2147483647) (ha:powB a=true):WP (extent_up n a) (·=upZ n a):=by
  have hb:=powB_bd ha
  unfold extent_up
  (repeat' (first | (refine WP.chk (by (first | omega | (simp only [okI, List.length_append, List.length_cons, List.length_nil, length_setD, length_repD] at *; omega))) fun _ => ?_) | ((refine WP.bif (fun wh => ?_) (fun wh => ?_)) <;> (try simp only [wpH, ne_eq] at wh) <;> (try (exfalso; omega)))))
  exact WP.ret (upZ_eq h0 (by omega) (by rw [←powB_eq];exact ha))
theorem elimited_sp (n:Int):WP (extent_limited n) (·=if 2147483647<n then (0,9) else (n,0)):=by
  unfold extent_limited
  (repeat' (first | (refine WP.chk (by (first | omega | (simp only [okI, List.length_append, List.length_cons, List.length_nil, length_setD, length_repD] at *; omega))) fun _ => ?_) | ((refine WP.bif (fun wh => ?_) (fun wh => ?_)) <;> (try simp only [wpH, ne_eq] at wh) <;> (try (exfalso; omega)))))
  · exact WP.ret (by rw [if_pos wh])
  · exact WP.ret (by rw [if_neg (by omega)])
def upQ (n a:Int):Int × Int:=if boundB n&&powB a then (if 2147483647<upZ n a then (0,9) else (upZ n a,0)) else (0,4)
def addQ (x y:Int):Int × Int:=if boundB x&&boundB y then (if 2147483647<x+y then (0,9) else (x+y,0)) else (0,4)
theorem eUp_sp (n a:Int):WP (extent_Up n a) (·=upQ n a):=by
  unfold extent_Up upQ
  refine WP.call (ebound_sp n) ?_
  rintro _ rfl
  refine WP.bif (fun wh=>?_) (fun wh=>?_)<;>(try simp only [wpH, ne_eq] at wh)
  · exact WP.ret (by rw [wh];rfl)
  have hb:=wh
  refine WP.call (epower_sp a) ?_
  rintro _ rfl
  refine WP.bif (fun wh=>?_) (fun wh=>?_)<;>(try simp only [wpH, ne_eq] at wh)
  · exact WP.ret (by rw [hb,wh];rfl)
  have hb2:=(boundB_iff n).1 hb
  refine WP.call (eup_sp n a hb2.1 hb2.2 wh) ?_
  rintro _ rfl
  refine WP.call (elimited_sp _) ?_
  rintro _ rfl
  exact WP.ret (by rw [hb,wh];rfl)
theorem eAdd_sp (x y:Int):WP (extent_Add x y) (·=addQ x y):=by
  unfold extent_Add addQ
  refine WP.call (ebound_sp x) ?_
  rintro _ rfl
  refine WP.bif (fun wh=>?_) (fun wh=>?_)<;>(try simp only [wpH, ne_eq] at wh)
  · exact WP.ret (by rw [wh];rfl)
  have hb:=wh
  refine WP.call (ebound_sp y) ?_
  rintro _ rfl
  refine WP.bif (fun wh=>?_) (fun wh=>?_)<;>(try simp only [wpH, ne_eq] at wh)
  · exact WP.ret (by rw [hb,wh];rfl)
  have h1:=(boundB_iff x).1 hb
  have h2:=(boundB_iff y).1 wh
  refine WP.chk ⟨by omega,by omega⟩ fun _=>?_
  refine WP.call (elimited_sp _) ?_
  rintro _ rfl
  exact WP.ret (by rw [hb,wh];rfl)
theorem rUp_sp (n a:Int):WP (r03_Up n a) (·=upQ n a):=by
  unfold r03_Up upQ
  refine WP.call (rbound_sp n) ?_
  rintro _ rfl
  refine WP.bif (fun wh=>?_) (fun wh=>?_)<;>(try simp only [wpH, ne_eq] at wh)
  · exact WP.ret (by rw [wh];rfl)
  have hb:=wh
  refine WP.call (power_sp a) ?_
  rintro _ rfl
  refine WP.bif (fun wh=>?_) (fun wh=>?_)<;>(try simp only [wpH, ne_eq] at wh)
  · exact WP.ret (by rw [hb,wh];rfl)
  have hp:=wh
  have hb2:=(boundB_iff n).1 hb
  have hp2:=powB_bd wh
  have hf:=upZ_mod_form (n:=n) hp2.1
  have hm0:=Int.emod_nonneg n (show a≠0 by omega)
  have hm1:=Int.emod_lt_of_pos n (show 0<a by omega)
  rw [hb,hp]
  simp only [Bool.and_self,if_true]
  refine WP.join (fun m=>m=upZ n a) ?_ ?_
  · rintro _ rfl
    refine WP.bif (fun wh=>?_) (fun wh=>?_)<;>(try simp only [wpH, ne_eq] at wh)
    · exact WP.ret (by rw [if_pos wh])
    · exact WP.ret (by rw [if_neg (Int.not_lt.2 wh)])
  · intro k hk
    refine WP.chk ⟨by omega,by omega⟩ fun _=>?_
    refine WP.bif (fun wh=>?_) (fun wh=>?_)<;>(try simp only [wpH, ne_eq] at wh)
    · rw [if_neg wh] at hf
      refine WP.chk ⟨by omega,by omega⟩ fun _=>?_
      refine WP.chk ⟨by omega,by omega⟩ fun _=>?_
      refine WP.chk ⟨by omega,by omega⟩ fun _=>?_
      exact hk _ hf.symm
    · rw [if_pos wh] at hf
      exact hk _ hf.symm
theorem good_sp (n:Int):WP (r04_good n) (·=in512 n):=by
  unfold r04_good in512
  (repeat' (first | (refine WP.chk (by (first | omega | (simp only [okI, List.length_append, List.length_cons, List.length_nil, length_setD, length_repD] at *; omega))) fun _ => ?_) | ((refine WP.bif (fun wh => ?_) (fun wh => ?_)) <;> (try simp only [wpH, ne_eq] at wh) <;> (try (exfalso; omega)))))
  all_goals (refine WP.ret ?_;simp;omega)
theorem remove_sp (s:List Int) (n:Int) (hl:s.length≤1000000000):WP (r04_Remove s n) (·=s.filter fun x=>x !=n):=by
  unfold r04_Remove
  refine WP.loop (fun j=>0≤j.1∧j.1≤s.length∧j.2=(s.take j.1.toNat).filter fun x=>x !=n) (fun j=>s.length- j.1.toNat) ⟨by simp,by simp,by simp⟩ ?_
  rintro again ⟨i,out⟩ ⟨h1,h2,h3⟩ ih
  dsimp only at h1 h2 h3 ih ⊢
  have hlo:out.length≤s.length:=by rw [h3];exact Nat.le_trans (List.length_filter_le _ _) (by rw [List.length_take];omega)
  (repeat' (first | (refine WP.chk (by (first | omega | (simp only [okI, List.length_append, List.length_cons, List.length_nil, length_setD, length_repD] at *; omega))) fun _ => ?_) | ((refine WP.bif (fun wh => ?_) (fun wh => ?_)) <;> (try simp only [wpH, ne_eq] at wh) <;> (try (exfalso; omega)))))
  · refine ih _ ⟨by dsimp only;omega,by dsimp only;omega,?_⟩ (by dsimp only;omega)
    dsimp only
    rw [take_atD ⟨h1,by assumption⟩,List.filter_append,←h3]
    simp [wh]
  · refine ih _ ⟨by dsimp only;omega,by dsimp only;omega,?_⟩ (by dsimp only;omega)
    dsimp only
    rw [take_atD ⟨h1,by assumption⟩,List.filter_append,←h3]
    simp [wh]
  · exact WP.ret (by rw [h3,take_all (by omega)])
theorem same_sp (a b:List Int) (hl:a.length≤1000000000):WP (r04_Same a b) (·=decide (a=b)):=by
  unfold r04_Same
  refine WP.bif (fun wh=>?_) (fun wh=>?_)<;>(try simp only [wpH, ne_eq] at wh)
  · refine WP.ret ?_
    rw [eq_comm,decide_eq_false_iff_not]
    intro h;subst h;exact wh rfl
  have hlen:a.length=b.length:=by omega
  refine WP.loop (fun i=>0≤i∧i≤a.length∧a.take i.toNat=b.take i.toNat) (fun i=>a.length- i.toNat) ⟨by omega,by omega,by simp⟩ ?_
  rintro again i ⟨h1,h2,h3⟩ ih
  (repeat' (first | (refine WP.chk (by (first | omega | (simp only [okI, List.length_append, List.length_cons, List.length_nil, length_setD, length_repD] at *; omega))) fun _ => ?_) | ((refine WP.bif (fun wh => ?_) (fun wh => ?_)) <;> (try simp only [wpH, ne_eq] at wh) <;> (try (exfalso; omega)))))
  · refine WP.ret ?_
    rw [eq_comm,decide_eq_false_iff_not]
    intro h;subst h;exact wh rfl
  · refine ih _ ⟨by omega,by omega,?_⟩ (by omega)
    rw [take_atD ⟨h1,by assumption⟩,take_atD ⟨h1,by omega⟩,h3,wh]
  · refine WP.ret ?_
    rw [take_all (by omega),take_all (by omega)] at h3
    simp [h3]
theorem sameAll_sp (a b:List (List Int)) (hl:a.length≤1000000000) (ha:∀x∈a,x.length≤1000000000):WP (r04_SameAll a b) (·=decide (a=b)):=by
  unfold r04_SameAll
  refine WP.bif (fun wh=>?_) (fun wh=>?_)<;>(try simp only [wpH, ne_eq] at wh)
  · refine WP.ret ?_
    rw [eq_comm,decide_eq_false_iff_not]
    intro h;subst h;exact wh rfl
  have hlen:a.length=b.length:=by omega
  refine WP.loop (fun i=>0≤i∧i≤a.length∧a.take i.toNat=b.take i.toNat) (fun i=>a.length- i.toNat) ⟨by omega,by omega,by simp⟩ ?_
  rintro again i ⟨h1,h2,h3⟩ ih
  (repeat' (first | (refine WP.chk (by (first | omega | (simp only [okI, List.length_append, List.length_cons, List.length_nil, length_setD, length_repD] at *; omega))) fun _ => ?_) | ((refine WP.bif (fun wh => ?_) (fun wh => ?_)) <;> (try simp only [wpH, ne_eq] at wh) <;> (try (exfalso; omega)))))
  · refine WP.call (same_sp _ _ (ha _ (atD_mem ⟨h1,by assumption⟩))) ?_
    rintro _ rfl
    (repeat' (first | (refine WP.chk (by (first | omega | (simp only [okI, List.length_append, List.length_cons, List.length_nil, length_setD, length_repD] at *; omega))) fun _ => ?_) | ((refine WP.bif (fun wh => ?_) (fun wh => ?_)) <;> (try simp only [wpH, ne_eq] at wh) <;> (try (exfalso; omega)))))
    · refine WP.ret ?_
      rw [eq_comm,decide_eq_false_iff_not]
      intro h;subst h;exact wh rfl
    · refine ih _ ⟨by omega,by omega,?_⟩ (by omega)
      rw [take_atD ⟨h1,by assumption⟩,take_atD ⟨h1,by omega⟩,h3,wh]
  · refine WP.ret ?_
    rw [take_all (by omega),take_all (by omega)] at h3
    simp [h3]
def insS (n:Int):List Int→List Int
  | []=>[n]
  | x::r=>if n≤x then (if n<x then n::x::r else x::r) else x::insS n r
def addS (s:List Int) (n:Int):List Int:=if in512 n then insS n s else s
theorem insS_length (n:Int):∀s:List Int,(insS n s).length≤s.length+1
  | []=>by simp [insS]
  | x::r=>by
    unfold insS
    split
    · split<;>simp
    · have:=insS_length n r;simp;omega
theorem addS_length (s:List Int) (n:Int):(addS s n).length≤s.length+1:=by
  unfold addS
  split
  · exact insS_length n s
  · omega
theorem drop_atD {α:Type} [Inhabited α] {l:List α} {k:Int} (h:0≤k∧k<(l.length:Int)):l.drop k.toNat=atD l k::l.drop (k+1).toNat:=by
  have h1:k.toNat<l.length:=by omega
  rw [show (k+1).toNat=k.toNat+1 by omega,List.drop_eq_getElem_cons h1]
  have:=atD_nat h1
  rw [Int.toNat_of_nonneg h.1] at this
  rw [this]
theorem add_sp (s:List Int) (n:Int) (hl:s.length≤1000000000):WP (r04_Add s n) (·=addS s n):=by
  unfold r04_Add
  refine WP.call (good_sp n) ?_
  rintro _ rfl
  refine WP.loop (fun j=>0≤j.2.1∧j.2.1≤s.length∧(j.2.2.length:Int)≤j.2.1+(if j.1 then 1 else 0)∧j.2.2++(if j.1 then s.drop j.2.1.toNat else insS n (s.drop j.2.1.toNat))=addS s n) (fun j=>s.length- j.2.1.toNat) ⟨by simp,by simp,by dsimp only;split<;>simp,?_⟩ ?_
  · unfold addS
    cases in512 n<;>simp
  rintro again ⟨d,i,out⟩ ⟨h1,h2,h3,h4⟩ ih
  dsimp only at h1 h2 h3 h4 ih ⊢
  refine WP.bif (fun wh=>?_) (fun wh=>?_)<;>(try simp only [wpH, ne_eq] at wh)
  · rw [drop_atD ⟨h1,wh⟩] at h4
    refine WP.join (fun j=>(j.2.length:Int)≤i+(if j.1 then 1 else 0)∧j.2++(atD s i::(if j.1 then s.drop (i+1).toNat else insS n (s.drop (i+1).toNat)))=addS s n) ?_ ?_
    · rintro ⟨d2,out2⟩ ⟨a1,a2⟩
      dsimp only at a1 a2 ⊢
      (repeat' (first | (refine WP.chk (by (first | omega | (simp only [okI, List.length_append, List.length_cons, List.length_nil, length_setD, length_repD] at *; omega))) fun _ => ?_) | ((refine WP.bif (fun wh => ?_) (fun wh => ?_)) <;> (try simp only [wpH, ne_eq] at wh) <;> (try (exfalso; omega)))))
      refine ih _ ⟨by dsimp only;omega,by dsimp only;omega,by simp;omega,?_⟩ (by dsimp only;omega)
      dsimp only
      rw [List.append_assoc]
      exact a2
    · intro k hk
      cases d with
      | true=>
        refine WP.bif (fun wh=>by cases wh) (fun wh=>?_)
        exact hk _ ⟨by dsimp only;omega,h4⟩
      | false=>
        refine WP.bif (fun wh=>?_) (fun wh=>by cases wh)
        simp only [Bool.false_eq_true,if_false] at h3 h4
        unfold insS at h4
        (repeat' (first | (refine WP.chk (by (first | omega | (simp only [okI, List.length_append, List.length_cons, List.length_nil, length_setD, length_repD] at *; omega))) fun _ => ?_) | ((refine WP.bif (fun wh => ?_) (fun wh => ?_)) <;> (try simp only [wpH, ne_eq] at wh) <;> (try (exfalso; omega)))))
        · rw [if_pos (by assumption),if_pos (by assumption)] at h4
          refine hk _ ⟨by simp only [List.length_append,List.length_singleton,if_true];omega,?_⟩
          dsimp only
          rw [List.append_assoc]
          exact h4
        · rw [if_pos (by assumption),if_neg (by omega)] at h4
          exact hk _ ⟨by simp only [if_true,if_false,Bool.false_eq_true];omega,h4⟩
        · rw [if_neg (by omega)] at h4
          exact hk _ ⟨by simp only [if_true,if_false,Bool.false_eq_true];omega,h4⟩
  · have e:s.drop i.toNat=[]:=List.drop_eq_nil_of_le (by omega)
    rw [e] at h4
    cases d with
    | true=>
      refine WP.bif (fun wh=>by cases wh) (fun wh=>?_)
      exact WP.ret (by simpa using h4)
    | false=>
      refine WP.bif (fun wh=>?_) (fun wh=>by cases wh)
      (repeat' (first | (refine WP.chk (by (first | omega | (simp only [okI, List.length_append, List.length_cons, List.length_nil, length_setD, length_repD] at *; omega))) fun _ => ?_) | ((refine WP.bif (fun wh => ?_) (fun wh => ?_)) <;> (try simp only [wpH, ne_eq] at wh) <;> (try (exfalso; omega)))))
      exact WP.ret (by simpa [insS] using h4)
def unionS (a b:List Int):List Int:=b.foldl addS a
theorem unionS_length (a b:List Int):(unionS a b).length≤a.length+b.length:=by
  unfold unionS
  induction b generalizing a with
  | nil=>simp
  | cons x r ih=>
    rw [List.foldl_cons,List.length_cons]
    have h1:=ih (addS a x)
    have h2:=addS_length a x
    omega
theorem union_sp (a b:List Int) (hl:a.length+b.length≤1000000000):WP (r04_Union a b) (·=unionS a b):=by
  unfold r04_Union
  (repeat' (first | (refine WP.chk (by (first | omega | (simp only [okI, List.length_append, List.length_cons, List.length_nil, length_setD, length_repD] at *; omega))) fun _ => ?_) | ((refine WP.bif (fun wh => ?_) (fun wh => ?_)) <;> (try simp only [wpH, ne_eq] at wh) <;> (try (exfalso; omega)))))
  refine WP.loop (fun j=>0≤j.2∧j.2≤b.length∧j.1=unionS a (b.take j.2.toNat)) (fun j=>b.length- j.2.toNat) ⟨by simp,by simp,by simp [unionS]⟩ ?_
  rintro again ⟨out,i⟩ ⟨h1,h2,h3⟩ ih
  dsimp only at h1 h2 h3 ih ⊢
  have hlo:out.length≤a.length+b.length:=by
    have:=unionS_length a (b.take i.toNat)
    rw [List.length_take] at this
    rw [h3];omega
  (repeat' (first | (refine WP.chk (by (first | omega | (simp only [okI, List.length_append, List.length_cons, List.length_nil, length_setD, length_repD] at *; omega))) fun _ => ?_) | ((refine WP.bif (fun wh => ?_) (fun wh => ?_)) <;> (try simp only [wpH, ne_eq] at wh) <;> (try (exfalso; omega)))))
  · refine WP.call (add_sp _ _ (by omega)) ?_
    rintro _ rfl
    (repeat' (first | (refine WP.chk (by (first | omega | (simp only [okI, List.length_append, List.length_cons, List.length_nil, length_setD, length_repD] at *; omega))) fun _ => ?_) | ((refine WP.bif (fun wh => ?_) (fun wh => ?_)) <;> (try simp only [wpH, ne_eq] at wh) <;> (try (exfalso; omega)))))
    refine ih _ ⟨by dsimp only;omega,by dsimp only;omega,?_⟩ (by dsimp only;omega)
    dsimp only
    rw [take_atD ⟨h1,by assumption⟩,unionS,List.foldl_append,h3]
    rfl
  · exact WP.ret (by rw [h3,take_all (by omega)])
structure IsS (s:List Int):Prop where
  asc:s.Pairwise (·<·)
  rng:∀x∈s,0≤x∧x<512
theorem IsS.nil:IsS []:=⟨List.Pairwise.nil,by simp⟩
theorem mem_insS {n x:Int}:∀{s:List Int},x∈insS n s↔x=n∨x∈s
  | []=>by simp [insS]
  | y::r=>by
    unfold insS
    split
    · split
      · simp
      · have:n=y:=by omega
        subst this
        simp
    · simp [mem_insS (s:=r)]
      constructor
      · rintro (h| h| h)<;>simp [h]
      · rintro (h| h| h)<;>simp [h]
theorem insS_asc {n:Int}:∀{s:List Int},s.Pairwise (·<·)→(insS n s).Pairwise (·<·)
  | [],_=>by simp [insS]
  | y::r,h=>by
    have h':=List.pairwise_cons.1 h
    unfold insS
    split
    · split
      · refine List.pairwise_cons.2 ⟨fun z hz=>?_,h⟩
        rcases List.mem_cons.1 hz with rfl| hz
        · assumption
        · have:=h'.1 z hz;omega
      · exact h
    · refine List.pairwise_cons.2 ⟨fun z hz=>?_,insS_asc h'.2⟩
      rcases mem_insS.1 hz with rfl| hz
      · omega
      · exact h'.1 z hz
theorem in512_iff {n:Int}:in512 n=true↔0≤n∧n<512:=by simp [in512]
theorem mem_addS {s:List Int} {n x:Int}:x∈addS s n↔x∈s∨(x=n∧0≤n∧n<512):=by
  unfold addS
  split
  · rename_i h
    rw [mem_insS]
    have:=in512_iff.1 h
    constructor
    · rintro (rfl| h)
      · exact .inr ⟨rfl,this⟩
      · exact .inl h
    · rintro (h| ⟨rfl,_⟩)
      · exact .inr h
      · exact .inl rfl
  · rename_i h
    rw [in512_iff] at h
    constructor
    · exact fun h=> .inl h
    · rintro (q| ⟨_,q⟩)
      · exact q
      · exact (h q).elim
theorem IsS.add {s:List Int} (h:IsS s) (n:Int):IsS (addS s n):=by
  refine ⟨?_,fun x hx=>?_⟩
  · unfold addS
    split
    · exact insS_asc h.asc
    · exact h.asc
  · rcases mem_addS.1 hx with hx| ⟨rfl,hx⟩
    · exact h.rng x hx
    · exact hx
theorem mem_unionS {a b:List Int} {x:Int}:x∈unionS a b↔x∈a∨(x∈b∧0≤x∧x<512):=by
  unfold unionS
  induction b generalizing a with
  | nil=>simp
  | cons y r ih=>
    rw [List.foldl_cons,ih,mem_addS,List.mem_cons]
    constructor
    · rintro ((h| ⟨rfl,h⟩)| ⟨h1,h2⟩)
      · exact .inl h
      · exact .inr ⟨.inl rfl,h⟩
      · exact .inr ⟨.inr h1,h2⟩
    · rintro (h| ⟨rfl| h1,h2⟩)
      · exact .inl (.inl h)
      · exact .inl (.inr ⟨rfl,h2⟩)
      · exact .inr ⟨h1,h2⟩
theorem IsS.union {a:List Int} (h:IsS a) (b:List Int):IsS (unionS a b):=by
  unfold unionS
  induction b generalizing a with
  | nil=>exact h
  | cons y r ih=>exact ih (h.add y)
theorem IsS.filter {a:List Int} (h:IsS a) (p:Int→Bool):IsS (a.filter p):=⟨h.asc.filter p,fun x hx=>h.rng x (List.mem_filter.1 hx).1⟩
theorem asc_length {s:List Int} {lo:Int} {n:Nat} (h:s.Pairwise (·<·)) (hr:∀x∈s,lo≤x∧x<lo+n):s.length≤n:=by
  induction s generalizing lo n with
  | nil=>simp
  | cons y r ih=>
    have h':=List.pairwise_cons.1 h
    have hy:=hr y List.mem_cons_self
    have:=ih (lo:=y+1) (n:=(lo+n- (y+1)).toNat) h'.2 fun x hx=>by
      have h1:=h'.1 x hx
      have h2:=hr x (List.mem_cons_of_mem _ hx)
      omega
    simp;omega
theorem IsS.length {s:List Int} (h:IsS s):s.length≤512:=asc_length (lo:=0) (n:=512) h.asc fun x hx=>by have:=h.rng x hx;omega
theorem asc_ext:∀{a b:List Int},a.Pairwise (·<·)→b.Pairwise (·<·)→(∀x,x∈a↔x∈b)→a=b
  | [],[],_,_,_=>rfl
  | [],y::r,_,_,h=>by have:=(h y).2 List.mem_cons_self;cases this
  | y::r,[],_,_,h=>by have:=(h y).1 List.mem_cons_self;cases this
  | x::q,y::r,ha,hb,h=>by
    have ha':=List.pairwise_cons.1 ha
    have hb':=List.pairwise_cons.1 hb
    have e:x=y:=by
      have h1:=(h x).1 List.mem_cons_self
      have h2:=(h y).2 List.mem_cons_self
      rcases List.mem_cons.1 h1 with h1| h1
      · exact h1
      · rcases List.mem_cons.1 h2 with h2| h2
        · exact h2.symm
        · have:=ha'.1 y h2;have:=hb'.1 x h1;omega
    subst e
    congr 1
    refine asc_ext ha'.2 hb'.2 fun z=>⟨fun hz=>?_,fun hz=>?_⟩
    · rcases List.mem_cons.1 ((h z).1 (List.mem_cons_of_mem _ hz)) with e| hz'
      · have:=ha'.1 z hz;omega
      · exact hz'
    · rcases List.mem_cons.1 ((h z).2 (List.mem_cons_of_mem _ hz)) with e| hz'
      · have:=hb'.1 z hz;omega
      · exact hz'
theorem IsS.ext {a b:List Int} (ha:IsS a) (hb:IsS b) (h:∀x,x∈a↔x∈b):a=b:=asc_ext ha.asc hb.asc h
def remB (x:AInstr):Bool:=decide (x.Op=16)|| decide (x.Op=17)
theorem removable_sp (x:AInstr):WP (r15_Removable x) (·=remB x):=by
  unfold r15_Removable remB
  (repeat' (first | (refine WP.chk (by (first | omega | (simp only [okI, List.length_append, List.length_cons, List.length_nil, length_setD, length_repD] at *; omega))) fun _ => ?_) | ((refine WP.bif (fun wh => ?_) (fun wh => ?_)) <;> (try simp only [wpH, ne_eq] at wh) <;> (try (exfalso; omega)))))
  all_goals (refine WP.ret ?_;simp [wh])
theorem defines_sp (x:AInstr):WP (r15_Defines x) (·=if remB x then (x.A,true) else (0,false)):=by
  unfold r15_Defines
  refine WP.call (removable_sp x) ?_
  rintro _ rfl
  (repeat' (first | (refine WP.chk (by (first | omega | (simp only [okI, List.length_append, List.length_cons, List.length_nil, length_setD, length_repD] at *; omega))) fun _ => ?_) | ((refine WP.bif (fun wh => ?_) (fun wh => ?_)) <;> (try simp only [wpH, ne_eq] at wh) <;> (try (exfalso; omega)))))
  all_goals (refine WP.ret ?_;simp [wh])
def useS (x:AInstr):List Int:=if x.Op=15∨x.Op=17 then [x.B] else []
theorem uses_sp (x:AInstr):WP (r15_Uses x) (·=useS x):=by
  unfold r15_Uses useS
  (repeat' (first | (refine WP.chk (by (first | omega | (simp only [okI, List.length_append, List.length_cons, List.length_nil, length_setD, length_repD] at *; omega))) fun _ => ?_) | ((refine WP.bif (fun wh => ?_) (fun wh => ?_)) <;> (try simp only [wpH, ne_eq] at wh) <;> (try (exfalso; omega)))))
  all_goals (refine WP.ret ?_;simp [wh])
  all_goals (intro h;omega)
def outS (x:AInstr) (s:List Int):List Int:=if remB x then s.filter (fun y=>y !=x.A) else s
def inSet (x:AInstr) (s:List Int):List Int:=unionS (outS x s) (useS x)
theorem in_sp (x:AInstr) (s:List Int) (hl:s.length≤1000000):WP (r15_In x s) (·=inSet x s):=by
  have hu:(useS x).length≤1:=by unfold useS;split<;>simp
  have ho:(outS x s).length≤s.length:=by
    unfold outS
    split
    · exact List.length_filter_le _ _
    · exact Nat.le_refl _
  unfold r15_In
  refine WP.join (fun o=>o=outS x s) ?_ ?_
  · rintro _ rfl
    refine WP.call (uses_sp x) ?_
    rintro _ rfl
    refine WP.call (union_sp _ _ (by omega)) ?_
    rintro _ rfl
    exact WP.ret rfl
  · intro k hk
    refine WP.call (defines_sp x) ?_
    rintro _ rfl
    unfold outS at hk
    split
    · rename_i h
      rw [if_pos h] at hk
      refine WP.bif (fun _=>?_) (fun wh=>by cases wh)
      refine WP.call (remove_sp _ _ (by omega)) ?_
      rintro _ rfl
      exact hk _ rfl
    · rename_i h
      rw [if_neg h] at hk
      refine WP.bif (fun wh=>by cases wh) (fun _=>?_)
      exact hk _ rfl
theorem mem_outS {x:AInstr} {s:List Int} {y:Int}:y∈outS x s↔y∈s∧¬(remB x=true∧y=x.A):=by
  unfold outS
  split
  · rename_i h
    rw [List.mem_filter]
    simp [h]
  · rename_i h
    simp [h]
theorem IsS.out {s:List Int} (h:IsS s) (x:AInstr):IsS (outS x s):=by
  unfold outS
  split
  · exact h.filter _
  · exact h
theorem mem_inSet {x:AInstr} {s:List Int} {y:Int}:y∈inSet x s↔(y∈s∧¬(remB x=true∧y=x.A))∨(y∈useS x∧0≤y∧y<512):=by
  unfold inSet
  rw [mem_unionS,mem_outS]
theorem IsS.inSet {s:List Int} (h:IsS s) (x:AInstr):IsS (Go.Proofs.YtgbkhjllbgmdcaaGreat.Q.inSet x s):=(h.out x).union _
def nextS (f:AFunc) (k:Int):List Int:=
  if k<0∨(f.Code.length:Int)≤k then []
  else if (atD f.Code k).Op=20 then [(atD f.Code k).A]
  else if (atD f.Code k).Op=23∨(atD f.Code k).Op=24 then []
  else if (atD f.Code k).Op=21 then (if (atD f.Code k).B<k+1 then [(atD f.Code k).B,k+1] else if k+1<(atD f.Code k).B then [k+1,(atD f.Code k).B] else [k+1])
  else [k+1]
theorem next13_sp (f:AFunc) (k:Int) (hl:f.Code.length≤1000000):WP (r13_Next f k) (·=nextS f k):=by
  unfold r13_Next nextS
  refine WP.bif (fun wh=>?_) (fun wh=>?_)<;>(try simp only [wpH, ne_eq] at wh)
  · exact WP.ret (by rw [if_pos (.inl wh)])
  refine WP.bif (fun wh=>?_) (fun wh=>?_)<;>(try simp only [wpH, ne_eq] at wh)
  · exact WP.ret (by rw [if_pos (.inr wh)])
  rw [if_neg (by omega)]
  (first | (refine WP.chk (by (first | omega | (simp only [okI, List.length_append, List.length_cons, List.length_nil, length_setD, length_repD] at *; omega))) fun _ => ?_) | ((refine WP.bif (fun wh => ?_) (fun wh => ?_)) <;> (try simp only [wpH, ne_eq] at wh) <;> (try (exfalso; omega))))
  refine WP.bif (fun wh=>?_) (fun wh=>?_)<;>(try simp only [wpH, ne_eq] at wh)
  · (repeat' (first | (refine WP.chk (by (first | omega | (simp only [okI, List.length_append, List.length_cons, List.length_nil, length_setD, length_repD] at *; omega))) fun _ => ?_) | ((refine WP.bif (fun wh => ?_) (fun wh => ?_)) <;> (try simp only [wpH, ne_eq] at wh) <;> (try (exfalso; omega)))))
    exact WP.ret (by rw [if_pos wh])
  rw [if_neg wh]
  refine WP.join (fun b=>b=(decide ((atD f.Code k).Op=23)|| decide ((atD f.Code k).Op=24))) ?_ ?_
  · rintro _ rfl
    (repeat' (first | (refine WP.chk (by (first | omega | (simp only [okI, List.length_append, List.length_cons, List.length_nil, length_setD, length_repD] at *; omega))) fun _ => ?_) | ((refine WP.bif (fun wh => ?_) (fun wh => ?_)) <;> (try simp only [wpH, ne_eq] at wh) <;> (try (exfalso; omega)))))
    all_goals (refine WP.ret ?_;(try simp only [Bool.or_eq_false_iff,decide_eq_false_iff_not] at*);repeat' split)
    all_goals (first| rfl| (exfalso;omega))
  · intro k2 hk2
    (repeat' (first | (refine WP.chk (by (first | omega | (simp only [okI, List.length_append, List.length_cons, List.length_nil, length_setD, length_repD] at *; omega))) fun _ => ?_) | ((refine WP.bif (fun wh => ?_) (fun wh => ?_)) <;> (try simp only [wpH, ne_eq] at wh) <;> (try (exfalso; omega)))))
    all_goals (refine hk2 _ ?_;simp [wh])
theorem WfI.use {n i par:Int} {sl:List ASlot} {J:Int→Prop} {x:AInstr} (h:WfI n i par sl J x) {y:Int} (hy:y∈useS x):inN y sl.length:=by
  unfold useS at hy
  cases h<;>simp at hy
  case load a s ha hs=>subst hy;exact hs
  case move s t hs ht he=>subst hy;exact ht
  all_goals (obtain ⟨h1,rfl⟩:=hy;exfalso;omega)
theorem WfI.dfn {n i par:Int} {sl:List ASlot} {J:Int→Prop} {x:AInstr} (h:WfI n i par sl J x) (hx:remB x=true):inN x.A sl.length:=by
  unfold remB at hx
  cases h<;>simp at hx
  case store s a hs ha=>exact hs
  case move s t hs ht he=>exact hs
  all_goals (exfalso;omega)
theorem WfF.at_ {n i par:Int} {f:AFunc} (h:WfF n i par f) {k:Int} (hk:inN k f.Code.length):WfI n i par f.Slots (fun t=>inN t f.Code.length) (atD f.Code k):=h.instr _ (atD_mem hk)
theorem WfF.next {n i par:Int} {f:AFunc} (h:WfF n i par f) {k j:Int} (hj:j∈nextS f k):inN k f.Code.length∧inN j f.Code.length:=by
  have hlen:=h.code.1
  unfold nextS at hj
  split at hj
  · cases hj
  rename_i h1
  have hk:inN k f.Code.length:=⟨by omega,by omega⟩
  refine ⟨hk,?_⟩
  have hx:=h.at_ hk
  have hlast:=h.last
  split at hj
  · rename_i h2
    rw [one_mem hj]
    generalize atD f.Code k=x at*
    cases hx<;>first| assumption| (simp at h2;done)| (exfalso;dsimp only at h2;omega)
  rename_i h2
  split at hj
  · cases hj
  rename_i h3
  have hk1:inN (k+1) f.Code.length:=by
    refine ⟨by have:=hk.1;omega,?_⟩
    have:=hk.2
    by_cases he:k=(f.Code.length:Int)- 1
    · rw [he] at h3;exact (h3 hlast).elim
    · omega
  split at hj
  · rename_i h4
    have hB:inN (atD f.Code k).B f.Code.length:=by
      generalize atD f.Code k=x at*
      cases hx<;>first| assumption| (simp at h4;done)| (exfalso;dsimp only at h4;omega)
    split at hj
    · rcases List.mem_cons.1 hj with rfl| hj
      · exact hB
      · rw [one_mem hj];exact hk1
    · split at hj
      · rcases List.mem_cons.1 hj with rfl| hj
        · exact hk1
        · rw [one_mem hj];exact hB
      · rw [one_mem hj];exact hk1
  · rw [one_mem hj];exact hk1
theorem nextS_length (f:AFunc) (k:Int):(nextS f k).length≤2:=by
  unfold nextS
  repeat' split
  all_goals simp
structure AnnS (f:AFunc) (out:List (List Int)):Prop where
  len:out.length=f.Code.length
  set:∀k,inN k f.Code.length→IsS (atD out k)∧∀y∈atD out k,y<f.Slots.length
theorem AnnS.mem {f:AFunc} {out:List (List Int)} (h:AnnS f out):∀s∈out,s.length≤512:=fun s hs=>by
  obtain ⟨k,h1,h2,rfl⟩:=mem_atD hs
  exact (h.set k ⟨h1,by rw [←h.len];exact h2⟩).1.length
theorem mem_foldU {g:Int→List Int} {y:Int}:∀(l:List Int) (a:List Int),y∈l.foldl (fun acc j=>unionS acc (g j)) a↔y∈a∨∃j∈l,y∈g j∧0≤y∧y<512
  | [],a=>by simp
  | x::r,a=>by
    rw [List.foldl_cons,mem_foldU r,mem_unionS]
    constructor
    · rintro ((h| h)| ⟨j,h1,h2⟩)
      · exact .inl h
      · exact .inr ⟨x,List.mem_cons_self,h⟩
      · exact .inr ⟨j,List.mem_cons_of_mem _ h1,h2⟩
    · rintro (h| ⟨j,h1,h2⟩)
      · exact .inl (.inl h)
      · rcases List.mem_cons.1 h1 with rfl| h1
        · exact .inl (.inr h2)
        · exact .inr ⟨j,h1,h2⟩
theorem IsS.foldU {g:Int→List Int}:∀(l:List Int) {a:List Int},IsS a→IsS (l.foldl (fun acc j=>unionS acc (g j)) a)
  | [],_,h=>h
  | x::r,_,h=>IsS.foldU r (h.union _)
def stepAt (f:AFunc) (out:List (List Int)) (k:Int):List Int:=(nextS f k).foldl (fun acc j=>unionS acc (inSet (atD f.Code j) (atD out j))) []
theorem IsS.stepAt (f:AFunc) (out:List (List Int)) (k:Int):IsS (Go.Proofs.YtgbkhjllbgmdcaaGreat.Q.stepAt f out k):=IsS.foldU _ IsS.nil
section
variable {n i par:Int} {f:AFunc} {out:List (List Int)}
theorem mem_stepAt (hf:WfF n i par f) (h:AnnS f out) {k y:Int}:y∈stepAt f out k↔∃j∈nextS f k,y∈inSet (atD f.Code j) (atD out j):=by
  unfold stepAt
  rw [mem_foldU]
  constructor
  · rintro (h| ⟨j,h1,h2,_⟩)
    · cases h
    · exact ⟨j,h1,h2⟩
  · rintro ⟨j,h1,h2⟩
    exact .inr ⟨j,h1,h2,((h.set j (hf.next h1).2).1.inSet _).rng y h2⟩
theorem stepAt_lt (hf:WfF n i par f) (h:AnnS f out) {k y:Int} (hy:y∈stepAt f out k):y<f.Slots.length:=by
  obtain ⟨j,h1,h2⟩:=(mem_stepAt hf h).1 hy
  have hj:=(hf.next h1).2
  rcases mem_inSet.1 h2 with h3| h3
  · exact (h.set j hj).2 y h3.1
  · exact ((hf.at_ hj).use h3.1).2
theorem step16_sp (hf:WfF n i par f) (h:AnnS f out):WP (r16_Step f ⟨out⟩) fun r=>r.Out.length=f.Code.length∧∀k,inN k f.Code.length→atD r.Out k=stepAt f out k:=by
  have hc:=hf.code
  have hout:=h.len
  unfold r16_Step
  (repeat' (first | (refine WP.chk (by (first | omega | (simp only [okI, List.length_append, List.length_cons, List.length_nil, length_setD, length_repD] at *; omega))) fun _ => ?_) | ((refine WP.bif (fun wh => ?_) (fun wh => ?_)) <;> (try simp only [wpH, ne_eq] at wh) <;> (try (exfalso; omega)))))
  dsimp only
  have hrep:∀k:Int,atD (repD (f.Code.length:Int):List (List Int)) k=[]:=fun k=>by
    unfold atD repD
    rw [List.getD_eq_getElem?_getD,List.getElem?_replicate]
    split<;>rfl
  refine WP.loop (fun j=>0≤j.1∧j.1≤f.Code.length∧j.2.length=f.Code.length∧(∀t,0≤t→t<j.1→atD j.2 t=stepAt f out t)∧∀t,j.1≤t→t<f.Code.length→atD j.2 t=[]) (fun j=>f.Code.length- j.1.toNat) ⟨by simp,by simp,by dsimp only;rw [length_repD];omega,by intro t h1 h2;dsimp only at h2;omega,fun t _ _=>hrep t⟩ ?_
  rintro again1 ⟨k,own⟩ ⟨a1,a2,a3,a4,a5⟩ ih1
  dsimp only at a1 a2 a3 a4 a5 ih1 ⊢
  refine WP.bif (fun wh=>?_) (fun wh=>?_)<;>(try simp only [wpH, ne_eq] at wh)
  · have hk:inN k f.Code.length:=⟨a1,wh⟩
    refine WP.call (next13_sp f k (by omega)) ?_
    rintro _ rfl
    have hnl:=nextS_length f k
    refine WP.loop (fun j=>0≤j.1∧j.1≤(nextS f k).length∧j.2.length=f.Code.length∧(∀t,0≤t→t≠k→atD j.2 t=atD own t)∧atD j.2 k=((nextS f k).take j.1.toNat).foldl (fun acc j=>unionS acc (inSet (atD f.Code j) (atD out j))) []) (fun j=>(nextS f k).length- j.1.toNat) ⟨by simp,by simp,a3,fun t _ _=>rfl,by dsimp only;rw [a5 k (Int.le_refl _) wh];rfl⟩ ?_
    rintro again2 ⟨t,own2⟩ ⟨b1,b2,b3,b4,b5⟩ ih2
    dsimp only at b1 b2 b3 b4 b5 ih2 ⊢
    refine WP.bif (fun wh=>?_) (fun wh=>?_)<;>(try simp only [wpH, ne_eq] at wh)
    · have hm:atD (nextS f k) t∈nextS f k:=atD_mem ⟨b1,wh⟩
      have hj:=(hf.next hm).2
      obtain ⟨hj1,hj2⟩:=hj
      have hS:=h.set _ ⟨hj1,hj2⟩
      have hl:=hS.1.length
      have hown:IsS (atD own2 k):=by rw [b5];exact IsS.foldU _ IsS.nil
      have hol:=hown.length
      have htk:=take_atD (l:=nextS f k) (k:=t) ⟨b1,by omega⟩
      generalize hjj:atD (nextS f k) t=jj at*
      (repeat' (first | (refine WP.chk (by (first | omega | (simp only [okI, List.length_append, List.length_cons, List.length_nil, length_setD, length_repD] at *; omega))) fun _ => ?_) | ((refine WP.bif (fun wh => ?_) (fun wh => ?_)) <;> (try simp only [wpH, ne_eq] at wh) <;> (try (exfalso; omega)))))
      refine WP.call (in_sp _ _ (by omega)) ?_
      rintro _ rfl
      have hil:=(hS.1.inSet (atD f.Code jj)).length
      refine WP.call (union_sp _ _ (by omega)) ?_
      rintro _ rfl
      (repeat' (first | (refine WP.chk (by (first | omega | (simp only [okI, List.length_append, List.length_cons, List.length_nil, length_setD, length_repD] at *; omega))) fun _ => ?_) | ((refine WP.bif (fun wh => ?_) (fun wh => ?_)) <;> (try simp only [wpH, ne_eq] at wh) <;> (try (exfalso; omega)))))
      refine ih2 _ ⟨by dsimp only;omega,by dsimp only;omega,by dsimp only;rw [length_setD,b3],fun u h1 h2=>?_,?_⟩ (by dsimp only;omega)
      · dsimp only
        rw [atD_setD ⟨a1,by omega⟩ h1,if_neg h2]
        exact b4 u h1 h2
      · dsimp only
        rw [atD_setD ⟨a1,by omega⟩ a1,if_pos rfl,htk,List.foldl_append,←b5]
        rfl
    · (repeat' (first | (refine WP.chk (by (first | omega | (simp only [okI, List.length_append, List.length_cons, List.length_nil, length_setD, length_repD] at *; omega))) fun _ => ?_) | ((refine WP.bif (fun wh => ?_) (fun wh => ?_)) <;> (try simp only [wpH, ne_eq] at wh) <;> (try (exfalso; omega)))))
      rw [take_all (by omega)] at b5
      refine ih1 _ ⟨by dsimp only;omega,by dsimp only;omega,b3,fun u h1 h2=>?_,fun u h1 h2=>?_⟩ (by dsimp only;omega)
      · dsimp only at h2 ⊢
        by_cases hu:u=k
        · rw [hu];exact b5
        · rw [b4 u h1 hu];exact a4 u h1 (by omega)
      · dsimp only at h1 ⊢
        rw [b4 u (by omega) (by omega)];exact a5 u (by omega) h2
  · exact WP.ret ⟨a3,fun u hu=>a4 u hu.1 (by have:=hu.2;omega)⟩
structure Live (f:AFunc) (out:List (List Int)):Prop where
  ann:AnnS f out
  ge:∀k,inN k f.Code.length→∀y∈stepAt f out k,y∈atD out k
structure Least (f:AFunc) (out:List (List Int)):Prop where
  live:Live f out
  fix:∀k,inN k f.Code.length→∀y∈atD out k,y∈stepAt f out k
  least:∀X,Live f X→∀k,inN k f.Code.length→∀y∈atD out k,y∈atD X k
theorem sub_length {a b:List Int} (ha:IsS a) (hb:IsS b) (h:∀x∈a,x∈b):a.length≤b.length∧(a.length=b.length→a=b):=by
  have e:b.filter (fun x=>decide (x∈a))=a:=(hb.filter _).ext ha fun x=>by
    rw [List.mem_filter,decide_eq_true_eq]
    exact ⟨fun q=>q.2,fun q=>⟨h x q,q⟩⟩
  refine ⟨by rw [←e];exact List.length_filter_le _ _,fun hl=>ha.ext hb fun x=>⟨h x,fun hx=>?_⟩⟩
  rw [←e,List.length_filter_eq_length_iff] at hl
  simpa using hl x hx
def total (l:List (List Int)):Nat:=(l.map List.length).sum
theorem total_le:∀{a b:List (List Int)},a.length=b.length→(∀(i:Nat) (h1:i<a.length) (h2:i<b.length),a[i].length≤b[i].length)→total a≤total b∧(total a=total b→∀(i:Nat) (h1:i<a.length) (h2:i<b.length),a[i].length=b[i].length)
  | [],[],_,_=>⟨Nat.le_refl _,fun _ i h1 _=>by simp at h1⟩
  | [],_::_,h,_=>by simp at h
  | _::_,[],h,_=>by simp at h
  | x::a,y::b,hl,h=>by
    have h0:=h 0 (by simp) (by simp)
    have hs:∀(i:Nat) (h1:i<a.length) (h2:i<b.length),a[i].length≤b[i].length:=fun i h1 h2=>h (i+1) (by simp;omega) (by simp;omega)
    obtain ⟨h3,h4⟩:=total_le (a:=a) (b:=b) (by simpa using hl) hs
    have e1:total (x::a)=x.length+total a:=by simp [total]
    have e2:total (y::b)=y.length+total b:=by simp [total]
    simp only [List.getElem_cons_zero] at h0
    rw [e1,e2]
    refine ⟨by omega,fun he i h1 h2=>?_⟩
    cases i with
    | zero=>simp;omega
    | succ i=>simpa using h4 (by omega) i (by simpa using h1) (by simpa using h2)
theorem total_bound {m:Nat}:∀{a:List (List Int)},(∀s∈a,s.length≤m)→total a≤a.length*m
  | [],_=>by simp [total]
  | x::a,h=>by
    have h1:=total_bound (a:=a) fun s hs=>h s (List.mem_cons_of_mem _ hs)
    have h2:=h x List.mem_cons_self
    have e1:total (x::a)=x.length+total a:=by simp [total]
    rw [e1,List.length_cons,Nat.succ_mul];omega
theorem stepAt_mono (hf:WfF n i par f) {X Y:List (List Int)} (hX:AnnS f X) (hY:AnnS f Y) (h:∀k,inN k f.Code.length→∀y∈atD X k,y∈atD Y k) {k y:Int} (hy:y∈stepAt f X k):y∈stepAt f Y k:=by
  obtain ⟨j,h1,h2⟩:=(mem_stepAt hf hX).1 hy
  refine (mem_stepAt hf hY).2 ⟨j,h1,?_⟩
  rw [mem_inSet] at h2 ⊢
  rcases h2 with h2| h2
  · exact .inl ⟨h j (hf.next h1).2 y h2.1,h2.2⟩
  · exact .inr h2
theorem solve_sp (hf:WfF n i par f):WP (r16_Solve f) fun l=>Least f l.Out:=by
  have hc:=hf.code
  unfold r16_Solve
  (repeat' (first | (refine WP.chk (by (first | omega | (simp only [okI, List.length_append, List.length_cons, List.length_nil, length_setD, length_repD] at *; omega))) fun _ => ?_) | ((refine WP.bif (fun wh => ?_) (fun wh => ?_)) <;> (try simp only [wpH, ne_eq] at wh) <;> (try (exfalso; omega)))))
  have hrep:∀k:Int,atD (repD (f.Code.length:Int):List (List Int)) k=[]:=fun k=>by
    unfold atD repD
    rw [List.getD_eq_getElem?_getD,List.getElem?_replicate]
    split<;>rfl
  refine WP.loop (fun out=>AnnS f out∧(∀k,inN k f.Code.length→∀y∈atD out k,y∈stepAt f out k)∧∀X,Live f X→∀k,inN k f.Code.length→∀y∈atD out k,y∈atD X k) (fun out=>f.Code.length*512- total out) ⟨⟨by rw [length_repD];omega,fun k _=>by rw [hrep];exact ⟨IsS.nil,by simp⟩⟩,fun k _ y hy=>(by rw [hrep] at hy;cases hy),fun X _ k _ y hy=>(by rw [hrep] at hy;cases hy)⟩ ?_
  rintro again out ⟨a1,a2,a3⟩ ih
  refine WP.call (step16_sp hf a1) fun x1 ⟨b1,b2⟩=>?_
  have hA:AnnS f x1.Out:=⟨b1,fun k hk=>by rw [b2 k hk];exact ⟨IsS.stepAt _ _ _,fun y hy=>stepAt_lt hf a1 hy⟩⟩
  unfold r16_Same
  refine WP.call (R:=fun b=>b=decide (x1.Out=out)) ?_ ?_
  · refine WP.call (sameAll_sp x1.Out out (by omega) fun s hs=>by have:=hA.mem s hs;omega) ?_
    rintro _ rfl
    exact WP.ret rfl
  rintro _ rfl
  refine WP.bif (fun wh=>?_) (fun wh=>?_)<;>(try simp only [wpH, ne_eq] at wh)
  · refine WP.ret ⟨⟨a1,fun k hk y hy=>?_⟩,a2,a3⟩
    rw [←b2 k hk,wh] at hy
    exact hy
  · have hsub:∀k,inN k f.Code.length→∀y∈atD out k,y∈atD x1.Out k:=fun k hk y hy=>by rw [b2 k hk];exact a2 k hk y hy
    refine ih _ ⟨hA,fun k hk y hy=>?_,fun X hX k hk y hy=>?_⟩ ?_
    · rw [b2 k hk] at hy
      exact stepAt_mono hf a1 hA hsub hy
    · rw [b2 k hk] at hy
      exact hX.ge k hk y (stepAt_mono hf a1 hX.ann (fun k hk=>a3 X hX k hk) hy)
    · have hg:∀(l:List (List Int)) (t:Nat) (h:t<l.length),l[t]=atD l (t:Int):=fun l t h=>(atD_nat h).symm
      have hle:∀(t:Nat) (h1:t<out.length) (h2:t<x1.Out.length),out[t].length≤x1.Out[t].length∧(out[t].length=x1.Out[t].length→out[t]=x1.Out[t]):=fun t h1 h2=>by
        have hk:inN (t:Int) f.Code.length:=⟨by omega,by rw [a1.len] at h1;omega⟩
        rw [hg out t h1,hg x1.Out t h2]
        exact sub_length (a1.set _ hk).1 (hA.set _ hk).1 (hsub _ hk)
      obtain ⟨q1,q2⟩:=total_le (a:=out) (b:=x1.Out) (by rw [a1.len,b1]) fun t h1 h2=>(hle t h1 h2).1
      have q3:=total_bound (m:=512) (a:=x1.Out) hA.mem
      rw [b1] at q3
      have q4:total out≠total x1.Out:=fun he=>wh (List.ext_getElem (by rw [a1.len,b1]) fun t h2 h1=>((hle t h1 h2).2 (q2 he t h1 h2)).symm)
      omega
end
def Cl (f:AFunc) (strict:Bool) (k:Int) (L:List Int) (s t:Int):Prop:=remB (atD f.Code k)=true∧¬((atD f.Code k).Op=17∧(atD f.Code k).A=(atD f.Code k).B)∧s=(atD f.Code k).A∧t∈L∧t≠s∧(strict=true∨¬((atD f.Code k).Op=17∧(atD f.Code k).B=t))
def ClU (f:AFunc) (strict:Bool) (out:List (List Int)) (k:Int) (s t:Int):Prop:=∃j,0≤j∧j<k∧(Cl f strict j (atD out j) s t∨Cl f strict j (atD out j) t s)
def Edge (f:AFunc) (strict:Bool) (out:List (List Int)) (s t:Int):Prop:=ClU f strict out f.Code.length s t
section
variable {n i par:Int} {f:AFunc} {l:ALive}
end
section
variable {n i par:Int} {f:AFunc} {g:List (List Int)}
end
section
variable {n i par:Int} {f:AFunc}
end
theorem atD_ext {α:Type} [Inhabited α] {a b:List α} (hl:a.length=b.length) (h:∀k,inN k a.length→atD a k=atD b k):a=b:=
  List.ext_getElem hl fun t h1 h2=>by rw [←atD_nat h1,←atD_nat h2];exact h _ ⟨by omega,by omega⟩
theorem repD_at {α:Type} [Inhabited α] (n k:Int):atD (repD n:List α) k=default:=by
  unfold atD repD
  rw [List.getD_eq_getElem?_getD,List.getElem?_replicate]
  split<;>rfl
section
variable {n i par:Int} {f:AFunc}
end
section
variable {n i par:Int} {f:AFunc}
end
section
variable {n i par:Int} {f:AFunc}
end
def rgtP (a:AInterval):Prop:=0≤a.Off∧0≤a.Size∧a.Off+a.Size≤2147483647
theorem rrightG_sp (a:AInterval):WP (r03_Right a) fun b=>(b=true↔rgtP a):=by
  unfold r03_Right rgtP
  refine WP.call (rbound_sp _) ?_
  rintro _ rfl
  refine WP.bif (fun wh=>?_) (fun wh=>?_)
  · have h1:=(boundB_iff _).1 wh
    refine WP.call (rbound_sp _) ?_
    rintro _ rfl
    refine WP.bif (fun wh=>?_) (fun wh=>?_)
    · have h2:=(boundB_iff _).1 wh
      refine WP.chk ⟨by omega,by omega⟩ fun _=>?_
      exact WP.ret (by rw [decide_eq_true_eq];omega)
    · have h2:=(boundB_no _).1 wh
      exact WP.ret ⟨fun q=>(by cases q),fun q=>by exfalso;omega⟩
  · have h1:=(boundB_no _).1 wh
    exact WP.ret ⟨fun q=>(by cases q),fun q=>by exfalso;omega⟩
def okS (s:ASlot):Prop:=0≤s.Size∧s.Size≤16∧powB s.Align=true
theorem rightS.okS {s:ASlot} (h:rightS s):okS s:=by
  have h1:=h.slotB
  unfold Go.Proofs.YtgbkhjllbgmdcaaGreat.Q.slotB at h1
  rw [Bool.and_eq_true] at h1
  refine ⟨?_,?_,h1.2⟩<;>(have h2:=h1.1;unfold sizeB at h2;rw [decide_eq_true_eq] at h2;omega)
def offF (p:List Int × Int) (s:ASlot):List Int × Int:=(p.1++[upZ p.2 s.Align],upZ p.2 s.Align+s.Size)
def offL (e:Int) (l:List ASlot):List Int × Int:=l.foldl offF ([],e)
theorem offL_snoc (e:Int) (l:List ASlot) (s:ASlot):offL e (l++[s])=offF (offL e l) s:=by
  unfold offL
  rw [List.foldl_append]
  rfl
theorem off_mono {l:List ASlot}:∀(p:List Int × Int),(∀s∈l,okS s)→p.2≤(l.foldl offF p).2:=by
  induction l with
  | nil=>intro p _;exact Int.le_refl _
  | cons s r ih=>
    intro p h
    rw [List.foldl_cons]
    have h1:=ih (offF p s) fun x hx=>h x (List.mem_cons_of_mem _ hx)
    have h2:=h s List.mem_cons_self
    have h3:=upZ_le (n:=p.2) (powB_bd h2.2.2).1
    have h4:(offF p s).2=upZ p.2 s.Align+s.Size:=rfl
    have h5:=h2.1
    omega
theorem offL_take {e:Int} {l:List ASlot} (h:∀s∈l,okS s) (k:Nat):(offL e (l.take k)).2≤(offL e l).2:=by
  have h1:=off_mono (l:=l.drop k) (offL e (l.take k)) fun s hs=>h s (List.mem_of_mem_drop hs)
  have h2:offL e l=(l.drop k).foldl offF (offL e (l.take k)):=by
    unfold offL
    rw [←List.foldl_append,List.take_append_drop]
  rw [h2];exact h1
theorem offL_len (e:Int) (l:List ASlot):(offL e l).1.length=l.length:=by
  have key:∀(l:List ASlot) (p:List Int × Int),(l.foldl offF p).1.length=p.1.length+l.length:=by
    intro l
    induction l with
    | nil=>intro p;rfl
    | cons s r ih=>intro p;rw [List.foldl_cons,ih];simp [offF];omega
  unfold offL
  rw [key];simp
def baseR (args:Int) (l:List ASlot) (al:Int):ALayout × Int:=if 2147483519<upZ (offL args l).2 al then (⟨0,0,[]⟩,9) else (⟨args,upZ (offL args l).2 al,(offL args l).1⟩,0)
theorem baseR_err {args al:Int} {l:List ASlot} (hal:powB al=true) (h:2147483519<(offL args l).2):baseR args l al=(⟨0,0,[]⟩,9):=by
  have:=upZ_le (n:=(offL args l).2) (powB_bd hal).1
  unfold baseR
  rw [if_pos (by omega)]
section
variable {p:AProgram} {i al args:Int}
theorem sized_sp (y:ALayout) (e:Int) (h0:0≤e) (h1:e≤2147483647) (hal:powB al=true):WP (pack_sized y e al) (·=if 2147483519<upZ e al then (⟨0,0,[]⟩,9) else (⟨y.Args,upZ e al,y.Off⟩,0)):=by
  have hb:boundB e=true:=(boundB_iff e).2 ⟨h0,h1⟩
  have hle:=upZ_le (n:=e) (powB_bd hal).1
  unfold pack_sized
  refine WP.call (eUp_sp _ _) ?_
  rintro _ rfl
  unfold upQ
  rw [hb,hal]
  simp only [Bool.and_self,if_true]
  generalize upZ e al=z at*
  refine WP.join (fun x=>x=if 2147483519<z then 9 else 0) ?_ ?_
  · rintro _ rfl
    by_cases hz:2147483519<z
    · rw [if_pos hz,if_pos hz]
      refine WP.bif (fun _=>WP.ret rfl) (fun wh=>by simp at wh)
    · rw [if_neg hz,if_neg hz,if_neg (by omega)]
      refine WP.bif (fun wh=>by simp at wh) (fun _=>WP.ret rfl)
  · intro k hk
    by_cases hz:2147483647<z
    · rw [if_pos hz]
      refine WP.bif (fun wh=>by simp at wh) (fun _=>hk _ (by rw [if_pos (by omega)]))
    · rw [if_neg hz]
      refine WP.bif (fun _=>?_) (fun wh=>by simp at wh)
      refine WP.call (eAdd_sp _ _) ?_
      rintro _ rfl
      refine hk _ ?_
      unfold addQ
      rw [(boundB_iff z).2 ⟨by omega,by omega⟩,show boundB 128=true from rfl]
      simp only [Bool.and_self,if_true]
      by_cases hz2:2147483519<z
      · rw [if_pos (by omega),if_pos hz2]
      · rw [if_neg (by omega),if_neg hz2]
theorem baseline_sp (hi:inN i p.Funcs.length) (ha:WP (pack_Args p i) (·=args)) (h0:0≤args) (h1:args≤2147483647) (hs:∀s∈(atD p.Funcs i).Slots,okS s) (hl:(atD p.Funcs i).Slots.length≤1000000) (hal:powB al=true):WP (pack_Baseline p i al) (·=baseR args (atD p.Funcs i).Slots al):=by
  unfold pack_Baseline
  refine WP.call ha ?_
  intro x hx
  rw [hx]
  clear hx x
  refine WP.chk hi fun _=>?_
  generalize (atD p.Funcs i).Slots=l at*
  refine WP.loop (fun j=>(0≤j.2.1∧j.2.1≤l.length)∧(0≤j.1∧j.1≤2147483647)∧(j.2.2,j.1)=offL args (l.take j.2.1.toNat)) (fun j=>l.length- j.2.1.toNat) ⟨⟨by simp,by simp⟩,⟨h0,h1⟩,rfl⟩ ?_
  rintro again ⟨e,k,own⟩ ⟨⟨a1,a2⟩,⟨a3,a4⟩,a5⟩ ih
  dsimp only at a1 a2 a3 a4 a5 ih ⊢
  have hown:own.length=(l.take k.toNat).length:=by rw [←offL_len args,←a5]
  have hown2:own.length≤l.length:=by rw [hown,List.length_take];omega
  have he:(offL args (l.take k.toNat)).2=e:=by rw [←a5]
  refine WP.bif (fun wh=>?_) (fun wh=>?_)<;>(try simp only [wpH, ne_eq] at wh)
  · have hkl:=wh
    have hm:=atD_mem (l:=l) (i:=k) ⟨a1,wh⟩
    obtain ⟨s1,s2,s3⟩:=hs _ hm
    have htk:=take_atD (l:=l) (k:=k) ⟨a1,wh⟩
    have hnx:(offL args (l.take (k+1).toNat))=(own++[upZ e (atD l k).Align],upZ e (atD l k).Align+(atD l k).Size):=by
      rw [htk,offL_snoc,←a5];rfl
    have hmx:=offL_take (e:=args) hs (k+1).toNat
    rw [hnx] at hmx
    dsimp only at hmx
    have hle:=upZ_le (n:=e) (powB_bd s3).1
    generalize atD l k=s at*
    refine WP.chk ⟨a1,wh⟩ fun _=>?_
    refine WP.call (eUp_sp _ _) ?_
    rintro _ rfl
    unfold upQ
    rw [(boundB_iff e).2 ⟨a3,a4⟩,s3]
    simp only [Bool.and_self,if_true]
    generalize upZ e s.Align=z at*
    refine WP.join (fun j=>(j.2=0∧j.1=z+s.Size∧z+s.Size≤2147483647∧z≤2147483647)∨(j.2≠0∧2147483647<z+s.Size)) ?_ ?_
    · rintro ⟨e2,x⟩ hj
      dsimp only at hj ⊢
      refine WP.bif (fun wh=>?_) (fun wh=>?_)<;>(try simp only [wpH, ne_eq] at wh)
      · exact WP.ret (baseR_err hal (by omega)).symm
      · obtain ⟨_,rfl,q1,q2⟩:=hj.resolve_right fun q=>q.1 wh
        refine WP.chk (by simp only [List.length_singleton];omega) fun _=>?_
        refine WP.chk ⟨by omega,by omega⟩ fun _=>?_
        refine ih _ ⟨⟨by dsimp only;omega,by dsimp only;omega⟩,⟨by dsimp only;omega,by dsimp only;omega⟩,?_⟩ (by dsimp only;omega)
        dsimp only
        rw [hnx,if_neg (by omega)]
    · intro k1 hk1
      by_cases hz:2147483647<z
      · rw [if_pos hz]
        refine WP.bif (fun wh=>by simp at wh) (fun _=>hk1 _ (.inr ⟨by simp,by omega⟩))
      · rw [if_neg hz]
        refine WP.bif (fun _=>?_) (fun wh=>by simp at wh)
        refine WP.call (eAdd_sp _ _) ?_
        rintro _ rfl
        unfold addQ
        rw [(boundB_iff z).2 ⟨by omega,by omega⟩,(boundB_iff s.Size).2 ⟨by omega,by omega⟩]
        simp only [Bool.and_self,if_true]
        by_cases hz2:2147483647<z+s.Size
        · rw [if_pos hz2];exact hk1 _ (.inr ⟨by simp,hz2⟩)
        · rw [if_neg hz2];exact hk1 _ (.inl ⟨rfl,rfl,by omega,by omega⟩)
  · rw [take_all (by omega)] at a5
    refine WP.call (sized_sp _ _ a3 a4 hal) ?_
    rintro _ rfl
    refine WP.ret ?_
    unfold baseR
    rw [←a5]
theorem rbaseline_sp (hi:inN i p.Funcs.length) (ha:WP (r24_Args p i) (·=args)) (h0:0≤args) (h1:args≤2147483647) (hs:∀s∈(atD p.Funcs i).Slots,okS s) (hl:(atD p.Funcs i).Slots.length≤1000000) (hal:powB al=true):WP (r24_Baseline p i al) (·=baseR args (atD p.Funcs i).Slots al):=by
  unfold r24_Baseline
  refine WP.call ha ?_
  intro x hx
  rw [hx]
  clear hx x
  refine WP.chk hi fun _=>?_
  generalize (atD p.Funcs i).Slots=l at*
  refine WP.loop (fun j=>(0≤j.2.1∧j.2.1≤l.length)∧(0≤j.1∧j.1≤2147483647)∧(j.2.2,j.1)=offL args (l.take j.2.1.toNat)) (fun j=>l.length- j.2.1.toNat) ⟨⟨by simp,by simp⟩,⟨h0,h1⟩,rfl⟩ ?_
  rintro again ⟨e,k,own⟩ ⟨⟨a1,a2⟩,⟨a3,a4⟩,a5⟩ ih
  dsimp only at a1 a2 a3 a4 a5 ih ⊢
  have hown:own.length=(l.take k.toNat).length:=by rw [←offL_len args,←a5]
  have hown2:own.length≤l.length:=by rw [hown,List.length_take];omega
  have he:(offL args (l.take k.toNat)).2=e:=by rw [←a5]
  refine WP.bif (fun wh=>?_) (fun wh=>?_)<;>(try simp only [wpH, ne_eq] at wh)
  · have hkl:=wh
    have hm:=atD_mem (l:=l) (i:=k) ⟨a1,wh⟩
    obtain ⟨s1,s2,s3⟩:=hs _ hm
    have htk:=take_atD (l:=l) (k:=k) ⟨a1,wh⟩
    have hnx:(offL args (l.take (k+1).toNat))=(own++[upZ e (atD l k).Align],upZ e (atD l k).Align+(atD l k).Size):=by
      rw [htk,offL_snoc,←a5];rfl
    have hmx:=offL_take (e:=args) hs (k+1).toNat
    rw [hnx] at hmx
    dsimp only at hmx
    have hle:=upZ_le (n:=e) (powB_bd s3).1
    generalize atD l k=s at*
    refine WP.chk ⟨a1,wh⟩ fun _=>?_
    refine WP.call (rUp_sp _ _) ?_
    rintro _ rfl
    unfold upQ
    rw [(boundB_iff e).2 ⟨a3,a4⟩,s3]
    simp only [Bool.and_self,if_true]
    generalize upZ e s.Align=z at*
    by_cases hz:2147483647<z
    · rw [if_pos hz]
      refine WP.bif (fun _=>?_) (fun wh=>by simp at wh)
      exact WP.ret (baseR_err hal (by omega)).symm
    · rw [if_neg hz]
      refine WP.bif (fun wh=>by simp at wh) (fun _=>?_)
      dsimp only
      refine WP.chk ⟨a1,hkl⟩ fun _=>?_
      refine WP.chk ⟨by omega,by omega⟩ fun _=>?_
      refine WP.bif (fun wh=>?_) (fun wh=>?_)<;>(try simp only [wpH, ne_eq] at wh)
      · exact WP.ret (baseR_err hal (by omega)).symm
      · refine WP.chk (by omega) fun _=>?_
        refine WP.chk (by simp only [List.length_singleton];omega) fun _=>?_
        refine WP.chk ⟨a1,hkl⟩ fun _=>?_
        refine WP.chk ⟨by omega,by omega⟩ fun _=>?_
        refine WP.chk ⟨by omega,by omega⟩ fun _=>?_
        refine ih _ ⟨⟨by dsimp only;omega,by dsimp only;omega⟩,⟨by dsimp only;omega,by dsimp only;omega⟩,?_⟩ (by dsimp only;omega)
        dsimp only
        rw [hnx]
  · rw [take_all (by omega)] at a5
    have hle:=upZ_le (n:=e) (powB_bd hal).1
    refine WP.call (rUp_sp _ _) ?_
    rintro _ rfl
    unfold upQ baseR
    rw [(boundB_iff e).2 ⟨a3,a4⟩,hal,←a5]
    simp only [Bool.and_self,if_true]
    generalize upZ e al=z at*
    by_cases hz:2147483647<z
    · rw [if_pos hz]
      refine WP.bif (fun _=>?_) (fun wh=>by simp at wh)
      exact WP.ret (by rw [if_pos (by omega)])
    · rw [if_neg hz]
      refine WP.bif (fun wh=>by simp at wh) (fun _=>?_)
      refine WP.bif (fun wh=>?_) (fun wh=>?_)<;>(try simp only [wpH, ne_eq] at wh)
      · exact WP.ret (by rw [if_pos wh])
      · exact WP.ret (by rw [if_neg (Int.not_lt.2 wh)])
theorem rargs24_sp (p:AProgram) (i:Int) (hp:WfP p) (hi:inN i p.Funcs.length):WP (r24_Args p i) (·=16*argsN p (atD p.Funcs i).Code):=by
  unfold r24_Args
  obtain ⟨hi1,hi2⟩:=hi
  have hc:=(hp.func i hi1 hi2).code
  (repeat' (first | (refine WP.chk (by (first | omega | (simp only [okI, List.length_append, List.length_cons, List.length_nil, length_setD, length_repD] at *; omega))) fun _ => ?_) | ((refine WP.bif (fun wh => ?_) (fun wh => ?_)) <;> (try simp only [wpH, ne_eq] at wh) <;> (try (exfalso; omega)))))
  generalize hf:atD p.Funcs i=f at*
  have hT:∀k:Int,0≤argsN p (f.Code.take k.toNat)∧argsN p (f.Code.take k.toNat)≤8:=fun k=>by
    have:=argsN_R hp ⟨hi1,hi2⟩ (l:=f.Code.take k.toNat) fun x hx=>by rw [hf];exact List.take_subset _ _ hx
    omega
  refine WP.loop (fun j=>0≤j.2∧j.2≤f.Code.length∧j.1=argsN p (f.Code.take j.2.toNat)) (fun j=>f.Code.length- j.2.toNat) ⟨by simp,by simp,rfl⟩ ?_
  rintro again ⟨n,k⟩ ⟨h1,h2,h3⟩ ih
  dsimp only at h1 h2 h3 ih ⊢
  have hTk:=hT k
  rw [←h3] at hTk
  refine WP.bif (fun wh=>?_) (fun wh=>?_)<;>(try simp only [wpH, ne_eq] at wh)
  · have hN:=(hp.at_ (i:=i) (k:=k) ⟨hi1,hi2⟩ ⟨h1,by rw [hf];exact wh⟩).need hp hi1
    rw [hf] at hN
    have hs:∀m,needA p (atD f.Code k)=m→max n m=argsN p (f.Code.take (k+1).toNat):=fun m hm=>by
      rw [take_atD ⟨h1,wh⟩,argsN_snoc,←h3,hm]
    generalize hx:atD f.Code k=x at*
    (repeat' (first | (refine WP.chk (by (first | omega | (simp only [okI, List.length_append, List.length_cons, List.length_nil, length_setD, length_repD] at *; omega))) fun _ => ?_) | ((refine WP.bif (fun wh => ?_) (fun wh => ?_)) <;> (try simp only [wpH, ne_eq] at wh) <;> (try (exfalso; omega)))))
    · exact ih _ ⟨by dsimp only;omega,by dsimp only;omega,hs _ (by unfold needA;rw [if_pos (by assumption)])⟩ (by dsimp only;omega)
    · exact ih _ ⟨by dsimp only;omega,by dsimp only;omega,hs _ (by unfold needA;rw [if_neg (by assumption),if_pos (by assumption)])⟩ (by dsimp only;omega)
    · refine ih _ ⟨by dsimp only;omega,by dsimp only;omega,?_⟩ (by dsimp only;omega)
      have:=hs 0 (by unfold needA;rw [if_neg (by assumption),if_neg (by assumption)])
      dsimp only
      omega
  · (repeat' (first | (refine WP.chk (by (first | omega | (simp only [okI, List.length_append, List.length_cons, List.length_nil, length_setD, length_repD] at *; omega))) fun _ => ?_) | ((refine WP.bif (fun wh => ?_) (fun wh => ?_)) <;> (try simp only [wpH, ne_eq] at wh) <;> (try (exfalso; omega)))))
    refine WP.ret ?_
    rw [h3,take_all (by omega),Int.mul_comm]
theorem baseR_small {l:List ASlot} (h0:0≤args) (h1:args≤1000) (hl:l.length≤6) (hs:∀s∈l,rightS s) (hal:powB al=true) (ha2:al≤1000):baseR args l al=(⟨args,upZ (offL args l).2 al,(offL args l).1⟩,0)∧args≤(offL args l).2∧(offL args l).2≤args+80*l.length∧upZ (offL args l).2 al≤3000:=by
  have key:∀(l:List ASlot) (q:List Int × Int),(∀s∈l,rightS s)→(l.foldl offF q).2≤q.2+80*l.length:=by
    intro l
    induction l with
    | nil=>intro q _;simp
    | cons s r ih=>
      intro q h
      rw [List.foldl_cons]
      have h1:=ih (offF q s) fun x hx=>h x (List.mem_cons_of_mem _ hx)
      have h2:=h s List.mem_cons_self
      have h3:=upZ_lt (n:=q.2) (powB_bd h2.okS.2.2).1
      have h4:(offF q s).2=upZ q.2 s.Align+s.Size:=rfl
      have h5:s.Align≤64∧s.Size≤16:=by unfold rightS at h2;omega
      rw [List.length_cons]
      omega
  have q1:=key l ([],args) hs
  have q2:=off_mono (l:=l) ([],args) fun s h=>(hs s h).okS
  have q3:=upZ_lt (n:=(offL args l).2) (powB_bd hal).1
  change (offL args l).2≤args+_ at q1
  change args≤(offL args l).2 at q2
  refine ⟨?_,q2,q1,by omega⟩
  unfold baseR
  rw [if_neg (by omega)]
end
theorem alP_pow {p:AProgram} (hp:WfP p) {al:Int} (h:al=alignP p∨al=alignP p*2∨al=alignP p*4):powB al=true∧al≤256∧1≤al:=by
  have h1:=(alignP_R hp).1
  unfold alR at h1
  have h2:al=16∨al=32∨al=64∨al=128∨al=256:=by omega
  refine ⟨?_,by omega,by omega⟩
  rcases h2 with h| h| h| h| h<;>subst h<;>decide
section
variable {l:List ASlot} {e:Int}
theorem offL_at (k:Int) (hk:inN k l.length):atD (offL e l).1 k=upZ (offL e (l.take k.toNat)).2 (atD l k).Align∧(offL e (l.take (k+1).toNat)).2=atD (offL e l).1 k+(atD l k).Size:=by
  obtain ⟨h1,h2⟩:=hk
  have hpre:∀(r:List ASlot) (q:List Int × Int),∃t,(r.foldl offF q).1=q.1++t:=by
    intro r
    induction r with
    | nil=>intro q;exact ⟨[],by simp⟩
    | cons s r ih=>
      intro q
      obtain ⟨t,ht⟩:=ih (offF q s)
      refine ⟨[upZ q.2 s.Align]++t,?_⟩
      rw [List.foldl_cons,ht]
      simp [offF]
  have htk:l.take (k+1).toNat=l.take k.toNat++[atD l k]:=take_atD ⟨h1,h2⟩
  have hq:offL e (l.take (k+1).toNat)=offF (offL e (l.take k.toNat)) (atD l k):=by rw [htk,offL_snoc]
  have hd:offL e l=(l.drop (k+1).toNat).foldl offF (offL e (l.take (k+1).toNat)):=by
    unfold offL
    rw [←List.foldl_append,List.take_append_drop]
  obtain ⟨t,ht⟩:=hpre (l.drop (k+1).toNat) (offL e (l.take (k+1).toNat))
  have hlen:(offL e (l.take k.toNat)).1.length=k.toNat:=by rw [offL_len,List.length_take];omega
  have hat:atD (offL e l).1 k=upZ (offL e (l.take k.toNat)).2 (atD l k).Align:=by
    rw [hd,ht,hq]
    unfold offF
    dsimp only
    rw [atD_append_left (by simp only [List.length_append,List.length_singleton];omega),atD_last (by omega)]
  refine ⟨hat,?_⟩
  rw [hat,hq]
  rfl
theorem offL_mono2 (hs:∀s∈l,okS s) {j k:Nat} (h:j≤k):(offL e (l.take j)).2≤(offL e (l.take k)).2:=by
  have:=offL_take (e:=e) (l:=l.take k) (fun s h=>hs s (List.mem_of_mem_take h)) j
  rw [List.take_take,Nat.min_eq_left h] at this
  exact this
theorem off_facts (hs:∀s∈l,okS s) (k:Int) (hk:inN k l.length):e≤atD (offL e l).1 k∧0≤(atD l k).Size∧(atD l k).Size≤16∧atD (offL e l).1 k+(atD l k).Size≤(offL e l).2∧atD (offL e l).1 k % (atD l k).Align=0∧1≤(atD l k).Align∧(∀j,0≤j→j<k→atD (offL e l).1 j+(atD l j).Size≤atD (offL e l).1 k):=by
  obtain ⟨h1,h2⟩:=offL_at (e:=e) k hk
  obtain ⟨s1,s2,s3⟩:=hs _ (atD_mem hk)
  have h3:=upZ_le (n:=(offL e (l.take k.toNat)).2) (powB_bd s3).1
  have h4:=off_mono (l:=l.take k.toNat) ([],e) fun s h=>hs s (List.mem_of_mem_take h)
  change e≤(offL e (l.take k.toNat)).2 at h4
  have h5:=offL_take (e:=e) hs (k+1).toNat
  refine ⟨by omega,s1,s2,by omega,?_,(powB_bd s3).1,fun j hj1 hj2=>?_⟩
  · rw [h1];exact upZ_mod _ _
  · obtain ⟨h6,h7⟩:=offL_at (e:=e) (l:=l) j ⟨hj1,by have:=hk.2;omega⟩
    have h8:=offL_mono2 (e:=e) hs (j:=(j+1).toNat) (k:=k.toNat) (by omega)
    omega
end
theorem inside_sp (a:AInterval) (m:Int) (h0:0≤a.Off) (h1:0≤a.Size) (h2:a.Off+a.Size≤2147483647):WP (extent_Inside a m) (·=decide (a.Off+a.Size≤m)):=by
  unfold extent_Inside extent_right
  refine WP.call (R:=(·=true)) ?_ ?_
  · refine WP.call (ebound_sp _) ?_
    rintro _ rfl
    rw [(boundB_iff a.Off).2 ⟨h0,by omega⟩]
    refine WP.bif (fun _=>?_) (fun wh=>by cases wh)
    refine WP.call (ebound_sp _) ?_
    rintro _ rfl
    rw [(boundB_iff a.Size).2 ⟨h1,by omega⟩]
    refine WP.bif (fun _=>?_) (fun wh=>by cases wh)
    refine WP.chk ⟨by omega,by omega⟩ fun _=>?_
    exact WP.ret (by simp;omega)
  rintro _ rfl
  refine WP.bif (fun _=>?_) (fun wh=>by cases wh)
  refine WP.chk ⟨by omega,by omega⟩ fun _=>?_
  exact WP.ret rfl
theorem rinside_sp (a:AInterval) (m:Int) (h0:0≤a.Off) (h1:0≤a.Size) (h2:a.Off+a.Size≤2147483647):WP (r03_Inside a m) (·=decide (a.Off+a.Size≤m)):=by
  unfold r03_Inside r03_Right
  refine WP.call (R:=(·=true)) ?_ ?_
  · refine WP.call (rbound_sp _) ?_
    rintro _ rfl
    rw [(boundB_iff a.Off).2 ⟨h0,by omega⟩]
    refine WP.bif (fun _=>?_) (fun wh=>by cases wh)
    refine WP.call (rbound_sp _) ?_
    rintro _ rfl
    rw [(boundB_iff a.Size).2 ⟨h1,by omega⟩]
    refine WP.bif (fun _=>?_) (fun wh=>by cases wh)
    refine WP.chk ⟨by omega,by omega⟩ fun _=>?_
    exact WP.ret (by simp;omega)
  rintro _ rfl
  refine WP.bif (fun _=>?_) (fun wh=>by cases wh)
  refine WP.chk ⟨by omega,by omega⟩ fun _=>?_
  exact WP.ret rfl
section
variable {n i par:Int} {f:AFunc} {g:List (List Int)}
end
section
variable {p:AProgram} {i al args:Int} {l:List ASlot} {off:List Int}
end
section
variable {p:AProgram} {i:Int}
end
theorem rinsideM_sp (a:AInterval) (m:Int):WP (r03_Inside a m) fun b=>(b=true→rgtP a∧a.Off+a.Size≤m):=by
  unfold r03_Inside
  refine WP.call (rrightG_sp a) fun b hb=>?_
  refine WP.bif (fun wh=>?_) (fun wh=>WP.ret fun q=>by cases q)
  have h:=hb.1 wh
  have h':=h
  unfold rgtP at h'
  refine WP.chk ⟨by omega,by omega⟩ fun _=>?_
  exact WP.ret fun q=>⟨h,by simpa using q⟩
structure ShapeP (p:AProgram) (i al:Int) (y:ALayout):Prop where
  args:y.Args=16*argsN p (atD p.Funcs i).Code
  len:y.Off.length=(atD p.Funcs i).Slots.length
  off:∀k,inN k (atD p.Funcs i).Slots.length→y.Args≤atD y.Off k∧atD y.Off k % (atD (atD p.Funcs i).Slots k).Align=0∧atD y.Off k+(atD (atD p.Funcs i).Slots k).Size≤y.Size
  sz:y.Args≤y.Size∧y.Size≤3000∧y.Size % al=0
  top:y.Size≤upZ (offL (16*argsN p (atD p.Funcs i).Code) (atD p.Funcs i).Slots).2 al
section
variable {p:AProgram} {i al:Int}
theorem base_shape (hp:WfP p) (hi:inN i p.Funcs.length) (hal:al=alignP p):WP (r24_Baseline p i al) fun r=>r.2=0∧ShapeP p i al r.1∧r.1.Size≤3000∧r.1.Size=upZ (offL (16*argsN p (atD p.Funcs i).Code) (atD p.Funcs i).Slots).2 al:=by
  have hsl:=hp.slotsR (atD_mem hi)
  have hA:=argsN_R hp hi (l:=(atD p.Funcs i).Code) fun x hx=>hx
  obtain ⟨hp1,hp2,hp3⟩:=alP_pow hp (.inl hal)
  refine (rbaseline_sp hi (rargs24_sp p i hp hi) (by omega) (by omega) (fun s hs=>(hsl.2 s hs).okS) (by omega) hp1).mono fun r hr=>?_
  obtain ⟨e1,e2,e3,e4⟩:=baseR_small (args:=16*argsN p (atD p.Funcs i).Code) (al:=al) (l:=(atD p.Funcs i).Slots) (by omega) (by omega) hsl.1 hsl.2 hp1 (by omega)
  have hle:=offL_len (16*argsN p (atD p.Funcs i).Code) (atD p.Funcs i).Slots
  have hzm:=upZ_mod (offL (16*argsN p (atD p.Funcs i).Code) (atD p.Funcs i).Slots).2 al
  have hzl:=upZ_le (n:=(offL (16*argsN p (atD p.Funcs i).Code) (atD p.Funcs i).Slots).2) hp3
  have hof:=fun k hk=>off_facts (e:=16*argsN p (atD p.Funcs i).Code) (fun s hs=>(hsl.2 s hs).okS) k (hk:inN k (atD p.Funcs i).Slots.length)
  rw [e1] at hr
  subst hr
  refine ⟨rfl,⟨rfl,hle,fun k hk=>?_,⟨by dsimp only;omega,by dsimp only;omega,hzm⟩,Int.le_refl _⟩,e4,rfl⟩
  obtain ⟨g1,g2,g3,g4,g5,_⟩:=hof k hk
  exact ⟨g1,g5,by dsimp only;omega⟩
theorem rshape_sp (hp:WfP p) (hi:inN i p.Funcs.length) (hal:al=alignP p) (y:ALayout):WP (r25_Shape p i al y) fun e=>e=0→ShapeP p i al y:=by
  have hsl:=hp.slotsR (atD_mem hi)
  have hA:=argsN_R hp hi (l:=(atD p.Funcs i).Code) fun x hx=>hx
  obtain ⟨hp1,hp2,hp3⟩:=alP_pow hp (.inl hal)
  unfold r25_Shape
  refine WP.call (base_shape hp hi hal) fun x1 ⟨b1,_,b3,b4⟩=>?_
  rw [b1]
  refine WP.bif (fun wh=>by simp at wh) fun _=>?_
  refine WP.chk hi fun _=>?_
  refine WP.call (rargs24_sp p i hp hi) ?_
  rintro _ rfl
  refine WP.bif (fun _=>WP.ret fun q=>by simp at q) fun wh=>?_
  rw [Bool.not_eq_false',decide_eq_true_eq] at wh
  have hargs:=wh
  refine WP.bif (fun _=>WP.ret fun q=>by simp at q) fun wh=>?_
  rw [Bool.not_eq_false',decide_eq_true_eq] at wh
  have hlen:y.Off.length=(atD p.Funcs i).Slots.length:=by omega
  refine WP.loop (fun j=>(0≤j∧j≤(atD p.Funcs i).Slots.length)∧∀k,0≤k→k<j→y.Args≤atD y.Off k∧atD y.Off k % (atD (atD p.Funcs i).Slots k).Align=0∧atD y.Off k+(atD (atD p.Funcs i).Slots k).Size≤y.Size) (fun j=>(atD p.Funcs i).Slots.length- j.toNat) ⟨⟨by omega,by omega⟩,fun k q1 q2=>by exfalso;omega⟩ ?_
  rintro again k ⟨⟨a1,a2⟩,a3⟩ ih
  refine WP.bif (fun wh=>?_) (fun wh=>?_)<;>(try simp only [wpH, ne_eq] at wh)
  · have hkl:=wh
    have hr:=hsl.2 _ (atD_mem (l:=(atD p.Funcs i).Slots) ⟨a1,wh⟩)
    have hal0:1≤(atD (atD p.Funcs i).Slots k).Align:=by have:=hr.2;omega
    refine WP.chk ⟨by omega,by omega⟩ fun _=>?_
    refine WP.bif (fun _=>WP.ret fun q=>by simp at q) fun wh=>?_
    rw [decide_eq_false_iff_not] at wh
    have hge:y.Args≤atD y.Off k:=by omega
    refine WP.chk ⟨by omega,by omega⟩ fun _=>?_
    refine WP.chk ⟨by omega,by omega⟩ fun _=>?_
    refine WP.chk (by omega) fun _=>?_
    refine WP.bif (fun _=>WP.ret fun q=>by simp at q) fun wh=>?_
    rw [Bool.not_eq_false',decide_eq_true_eq,Int.tmod_eq_emod_of_nonneg (by omega)] at wh
    have hm:=wh
    refine WP.chk ⟨by omega,by omega⟩ fun _=>?_
    refine WP.chk ⟨by omega,by omega⟩ fun _=>?_
    refine WP.call (rinsideM_sp _ _) fun b hb=>?_
    refine WP.bif (fun _=>WP.ret fun q=>by simp at q) fun wh=>?_
    have hin:=(hb (by simpa using wh)).2
    refine WP.chk ⟨by omega,by omega⟩ fun _=>?_
    refine ih _ ⟨⟨by omega,by omega⟩,fun t q1 q2=>?_⟩ (by omega)
    by_cases ht:t=k
    · rw [ht];exact ⟨hge,hm,hin⟩
    · exact a3 t q1 (by omega)
  · refine WP.chk (by omega) fun _=>?_
    refine WP.bif (fun _=>WP.ret fun q=>by simp at q) fun wh=>?_
    rw [Bool.not_eq_false',decide_eq_true_eq] at wh
    have hm:=wh
    refine WP.bif (fun _=>WP.ret fun q=>by simp at q) fun wh=>?_
    rw [decide_eq_false_iff_not] at wh
    have h1:=wh
    refine WP.bif (fun _=>WP.ret fun q=>by simp at q) fun wh=>?_
    rw [decide_eq_false_iff_not] at wh
    rw [Int.tmod_eq_emod_of_nonneg (by omega)] at hm
    exact WP.ret fun _=>⟨hargs,hlen,fun k hk=>a3 k hk.1 (by have:=hk.2;omega),⟨by omega,by omega,hm⟩,by omega⟩
end
def lowI (f:AFunc) (y:ALayout) (x:AInstr):AInstr:=if x.Op=15 then ⟨15,x.A,atD y.Off x.B,(atD f.Slots x.B).Size,0⟩ else if x.Op=16 then ⟨16,atD y.Off x.A,x.B,(atD f.Slots x.A).Size,0⟩ else if x.Op=17 then ⟨17,atD y.Off x.A,atD y.Off x.B,(atD f.Slots x.A).Size,0⟩ else if x.Op=18 then ⟨16,16*x.A,x.B,16,0⟩ else if x.Op=19 then ⟨15,x.A,y.Size+16*x.B,16,0⟩ else x
theorem trans_sp:WP lower_translations fun _=>True:=by
  unfold lower_translations
  simp [WP.chk_iff,WP.ret_iff,okI]
section
variable {n i par:Int} {f:AFunc} {y:ALayout} {J:Int→Prop} {x:AInstr}
theorem pickI {α:Type} {Q:α→Prop} (k:AInstr→M α) (hl:y.Off.length=f.Slots.length) (hz:0≤y.Size∧y.Size≤3000) (hpar:par≤3) (h:WfI n i par f.Slots J x) (hk:WP (k (lowI f y x)) Q):
    (x.Op=0∨x.Op=1∨x.Op=2∨x.Op=3∨x.Op=4∨x.Op=5∨x.Op=6∨x.Op=7∨x.Op=8∨x.Op=9∨x.Op=10∨x.Op=11∨x.Op=12∨x.Op=13∨x.Op=14∨x.Op=20∨x.Op=21∨x.Op=22∨x.Op=23∨x.Op=24)∧WP (M.call (lower_same f y x) k) Q∨x.Op=15∧WP (M.call (lower_translations_1 f y x) k) Q∨x.Op=16∧WP (M.call (lower_translations_2 f y x) k) Q∨x.Op=17∧WP (M.call (lower_translations_3 f y x) k) Q∨x.Op=18∧WP (M.call (lower_translations_4 f y x) k) Q∨x.Op=19∧WP (M.call (lower_translations_5 f y x) k) Q:=by
  have same:∀x:AInstr,lowI f y x=x→WP (k (lowI f y x)) Q→WP (M.call (lower_same f y x) k) Q:=fun x e h=>by
    rw [WP.call_iff]
    unfold lower_same
    rw [WP.ret_iff,←e]
    rw [e]
    rw [e] at h
    exact h
  cases h with
  | const a w h1 h2=>exact .inl ⟨by simp,same _ rfl hk⟩
  | copy o a b h1 h2 h3=>exact .inl ⟨by simp;omega,same _ (by rcases h1 with rfl| rfl<;>rfl) hk⟩
  | arith o a b c h1 h2 h3 h4 h5=>
    refine .inl ⟨by simp;omega,same _ ?_ hk⟩
    unfold lowI
    dsimp only
    rw [if_neg (show ¬o=15 by omega),if_neg (show ¬o=16 by omega),if_neg (show ¬o=17 by omega),if_neg (show ¬o=18 by omega),if_neg (show ¬o=19 by omega)]
  | io o a h1 h2=>exact .inl ⟨by simp;omega,same _ (by rcases h1 with rfl| rfl<;>rfl) hk⟩
  | load a s h1 h2=>
    obtain ⟨b1,b2⟩:=h2
    refine .inr (.inl ⟨rfl,?_⟩)
    unfold lower_translations_1
    rw [WP.call_iff]
    refine WP.chk ⟨by dsimp only;omega,by dsimp only;omega⟩ fun _=>?_
    refine WP.chk ⟨by dsimp only;omega,by dsimp only;omega⟩ fun _=>?_
    exact WP.ret hk
  | store s a h1 h2=>
    obtain ⟨b1,b2⟩:=h1
    refine .inr (.inr (.inl ⟨rfl,?_⟩))
    unfold lower_translations_2
    rw [WP.call_iff]
    refine WP.chk ⟨by dsimp only;omega,by dsimp only;omega⟩ fun _=>?_
    refine WP.chk ⟨by dsimp only;omega,by dsimp only;omega⟩ fun _=>?_
    exact WP.ret hk
  | move s t h1 h2 h3=>
    obtain ⟨b1,b2⟩:=h1
    obtain ⟨b3,b4⟩:=h2
    refine .inr (.inr (.inr (.inl ⟨rfl,?_⟩)))
    unfold lower_translations_3
    rw [WP.call_iff]
    refine WP.chk ⟨by dsimp only;omega,by dsimp only;omega⟩ fun _=>?_
    refine WP.chk ⟨by dsimp only;omega,by dsimp only;omega⟩ fun _=>?_
    refine WP.chk ⟨by dsimp only;omega,by dsimp only;omega⟩ fun _=>?_
    exact WP.ret hk
  | arg a r h1 h2=>
    obtain ⟨b1,b2⟩:=h1
    refine .inr (.inr (.inr (.inr (.inl ⟨rfl,?_⟩))))
    unfold lower_translations_4
    rw [WP.call_iff]
    refine WP.chk ⟨by dsimp only;omega,by dsimp only;omega⟩ fun _=>?_
    exact WP.ret hk
  | param a k h1 h2=>
    obtain ⟨b1,b2⟩:=h2
    refine .inr (.inr (.inr (.inr (.inr ⟨rfl,?_⟩))))
    unfold lower_translations_5
    rw [WP.call_iff]
    refine WP.chk ⟨by dsimp only;omega,by dsimp only;omega⟩ fun _=>?_
    refine WP.chk ⟨by dsimp only;omega,by dsimp only;omega⟩ fun _=>?_
    exact WP.ret hk
  | jump t h1=>exact .inl ⟨by simp,same _ rfl hk⟩
  | branch a t h1 h2=>exact .inl ⟨by simp,same _ rfl hk⟩
  | call g h1 h2=>exact .inl ⟨by simp,same _ rfl hk⟩
  | ret=>exact .inl ⟨by simp,same _ rfl hk⟩
  | trap w h1=>exact .inl ⟨by simp,same _ rfl hk⟩
theorem linstr_sp (hl:y.Off.length=f.Slots.length) (hz:0≤y.Size∧y.Size≤3000) (hpar:par≤3) (h:WfI n i par f.Slots J x):WP (lower_Instr f y x) (·=lowI f y x):=by
  unfold lower_Instr
  refine WP.call trans_sp fun _ _=>?_
  have hp:=pickI (Q:=(·=lowI f y x)) (fun z=>M.ret z) hl hz hpar h (WP.ret rfl)
  clear h
  generalize lowI f y x=z at*
  simp only [WP.bif_iff,WP.chk_iff,decide_eq_true_eq,decide_eq_false_iff_not]
  rcases hp with ⟨ho,hw⟩| ⟨ho,hw⟩| ⟨ho,hw⟩| ⟨ho,hw⟩| ⟨ho,hw⟩| ⟨ho,hw⟩
  · rcases ho with ho| ho| ho| ho| ho| ho| ho| ho| ho| ho| ho| ho| ho| ho| ho| ho| ho| ho| ho| ho<;>(simp only [ho];simp;first| exact hw| exact WP.chk True.intro fun _=>hw)
  all_goals (simp only [ho];simp;exact hw)
end
theorem clone26_sp (l:List AInstr) (hl:l.length≤1000000):WP (slices_Clone___api_Instr_api_Instr_ l) (·=l):=by
  unfold slices_Clone___api_Instr_api_Instr_
  refine WP.both l (fun h=>?_) ?_ rfl
  · exact WP.ret h.symm
  · refine WP.chk (by simp only [List.length_nil];omega) fun _=>?_
    exact WP.ret rfl
def lowF (f:AFunc) (y:ALayout):AFrame:=⟨f.Params,y.Size,f.Code.map (lowI f y)⟩
section
variable {p:AProgram} {i al:Int} {y:ALayout}
theorem map_at {α β:Type} [Inhabited α] [Inhabited β] (g:α→β) {l:List α} {k:Int} (h:inN k l.length):atD (l.map g) k=g (atD l k):=by
  obtain ⟨h1,h2⟩:=h
  have h3:k.toNat<(l.map g).length:=by rw [List.length_map];omega
  have h4:=atD_nat h3
  rw [Int.toNat_of_nonneg h1] at h4
  have h5:=atD_nat (l:=l) (i:=k.toNat) (by omega)
  rw [Int.toNat_of_nonneg h1] at h5
  rw [h4,List.getElem_map,h5]
theorem lframe_sp (hp:WfP p) (hi:inN i p.Funcs.length) (h:ShapeP p i al y):WP (lower_Frame p i y) (·=lowF (atD p.Funcs i) y):=by
  have hf:=hp.func i hi.1 hi.2
  have hc:=hf.code
  have hpar:=hp.par _ (atD_mem hi)
  have hA:=argsN_R hp hi (l:=(atD p.Funcs i).Code) fun x hx=>hx
  obtain ⟨s1,s2,s3⟩:=h.sz
  have sa:=h.args
  unfold lower_Frame
  refine WP.chk hi fun _=>?_
  have hlen:=h.len
  generalize atD p.Funcs i=f at*
  refine WP.call (clone26_sp f.Code (by omega)) ?_
  intro z hz
  rw [hz]
  clear hz z
  refine WP.call trans_sp fun _ _=>?_
  refine WP.loop (fun j=>(0≤j.1∧j.1≤f.Code.length)∧j.2.length=f.Code.length∧(∀t,0≤t→t<j.1→atD j.2 t=lowI f y (atD f.Code t))∧∀t,j.1≤t→t<f.Code.length→atD j.2 t=atD f.Code t) (fun j=>f.Code.length- j.1.toNat) ⟨⟨by simp,by simp⟩,rfl,fun t h1 h2=>by exfalso;dsimp only at h2;omega,fun _ _ _=>rfl⟩ ?_
  rintro again ⟨k,l⟩ ⟨⟨a1,a2⟩,a3,a4,a5⟩ ih
  dsimp only at a1 a2 a3 a4 a5 ih ⊢
  refine WP.bif (fun wh=>?_) (fun wh=>?_)<;>(try simp only [wpH, ne_eq] at wh)
  · have hkl:=wh
    refine WP.join (fun j=>j=setD l k (lowI f y (atD f.Code k))) ?_ ?_
    · rintro _ rfl
      refine WP.chk ⟨by omega,by omega⟩ fun _=>?_
      refine ih _ ⟨⟨by dsimp only;omega,by dsimp only;omega⟩,by dsimp only;rw [length_setD,a3],fun t h1 h2=>?_,fun t h1 h2=>?_⟩ (by dsimp only;omega)
      · dsimp only at h2 ⊢
        rw [atD_setD ⟨a1,by omega⟩ h1]
        split
        · rename_i ht;rw [ht]
        · exact a4 t h1 (by omega)
      · dsimp only at h1 ⊢
        rw [atD_setD ⟨a1,by omega⟩ (by omega),if_neg (by omega)]
        exact a5 t (by omega) h2
    · intro k1 hk1
      refine WP.chk ⟨a1,by omega⟩ fun _=>?_
      rw [a5 k (Int.le_refl _) hkl]
      have hW:=hf.at_ ⟨a1,hkl⟩
      generalize atD f.Code k=x at*
      have hp:=pickI (Q:=(·=lowF f y)) (fun z=>M.chk ((0:Int)≤k∧k<(l.length:Int))<| k1 (setD l k z)) hlen ⟨by omega,s2⟩ (by omega) hW (WP.chk ⟨a1,by omega⟩ fun _=>hk1 _ rfl)
      clear hW hk1 ih a4 a5
      simp only [WP.bif_iff,WP.chk_iff (p:=decide _=true),decide_eq_true_eq,decide_eq_false_iff_not]
      rcases hp with ⟨ho,hw⟩| ⟨ho,hw⟩| ⟨ho,hw⟩| ⟨ho,hw⟩| ⟨ho,hw⟩| ⟨ho,hw⟩
      · rcases ho with ho| ho| ho| ho| ho| ho| ho| ho| ho| ho| ho| ho| ho| ho| ho| ho| ho| ho| ho| ho<;>(simp only [ho];simp;first| exact hw| exact WP.chk True.intro fun _=>hw)
      all_goals (simp only [ho];simp;exact hw)
  · refine WP.ret ?_
    have e:l=f.Code.map (lowI f y):=atD_ext (by rw [List.length_map,a3]) fun t ht=>by
      obtain ⟨t1,t2⟩:=ht
      rw [a4 t t1 (by omega),map_at _ ⟨t1,by omega⟩]
    rw [e]
    rfl
end
theorem awake26_sp:WP law26_awake (·=true):=by
  unfold law26_awake
  refine WP.call (linstr_sp (n:=1) (i:=0) (par:=0) (J:=fun _=>True) rfl ⟨by simp,by simp⟩ (by simp) (.load 1 0 ⟨by simp,by simp⟩ ⟨by simp,by simp⟩)) ?_
  rintro _ rfl
  refine WP.bif (fun _=>WP.ret (by decide)) (fun wh=>by exfalso;revert wh;decide)
theorem WP.join_iff26 {α γ:Type} {K:γ→M α} {B:(γ→M α)→M α} {Q:α→Prop}:WP (M.join K B) Q↔WP (B K) Q:=
  ⟨fun ⟨r,h1,h2⟩=>⟨r,M.join_iff.1 h1,h2⟩,fun ⟨r,h1,h2⟩=>⟨r,M.join_iff.2 h1,h2⟩⟩
theorem within10_sp (k n:Int):WP (r10_within k n) (·=decide (0≤k∧k<n)):=by
  unfold r10_within
  refine WP.bif (fun wh=>?_) (fun wh=>?_)<;>(try simp only [wpH, ne_eq] at wh)
  · exact WP.ret (by simp [wh])
  · exact WP.ret (by simp;omega)
section
variable {p:AProgram} {i al:Int} {y:ALayout}
theorem placed_sp (hp:WfP p) (hi:inN i p.Funcs.length) (h:ShapeP p i al y) {k:Int} (hk:inN k (atD p.Funcs i).Slots.length):WP (layout_subject_placed ⟨p,i,al,atD p.Funcs i,y⟩ k) (·=true):=by
  have hsl:=hp.slotsR (atD_mem hi)
  have hA:=argsN_R hp hi (l:=(atD p.Funcs i).Code) fun x hx=>hx
  obtain ⟨o1,o2,o3⟩:=h.off k hk
  obtain ⟨s1,s2,s3⟩:=h.sz
  have sa:=h.args
  have sl:=h.len
  have hr:=hsl.2 _ (atD_mem hk)
  obtain ⟨hr1,hr2⟩:=hr
  obtain ⟨k1,k2⟩:=hk
  unfold layout_subject_placed
  dsimp only
  refine WP.chk ⟨k1,by omega⟩ fun _=>?_
  refine WP.bif (fun _=>?_) (fun wh=>by exfalso;rw [decide_eq_false_iff_not] at wh;omega)
  refine WP.chk ⟨k1,k2⟩ fun _=>?_
  refine WP.chk ⟨by omega,by omega⟩ fun _=>?_
  refine WP.bif (fun _=>?_) (fun wh=>by exfalso;rw [decide_eq_false_iff_not] at wh;exact wh o2)
  unfold layout_subject_interval
  dsimp only
  refine WP.call (R:=(·=⟨atD y.Off k,(atD (atD p.Funcs i).Slots k).Size⟩)) ?_ ?_
  · refine WP.chk ⟨k1,by omega⟩ fun _=>?_
    exact WP.chk ⟨k1,k2⟩ fun _=>WP.ret rfl
  rintro _ rfl
  refine WP.call (inside_sp _ _ (by dsimp only;omega) (by dsimp only;omega) (by dsimp only;omega)) ?_
  rintro _ rfl
  exact WP.ret (by simp;omega)
theorem lshape_sp (hp:WfP p) (hi:inN i p.Funcs.length) (hal:al=alignP p) (h:ShapeP p i al y):WP (layout_Shape p i al y) (·=0):=by
  have hsl:=hp.slotsR (atD_mem hi)
  have hA:=argsN_R hp hi (l:=(atD p.Funcs i).Code) fun x hx=>hx
  obtain ⟨hp1,hp2,hp3⟩:=alP_pow hp (.inl hal)
  obtain ⟨s1,s2,s3⟩:=h.sz
  have sa:=h.args
  have st:=h.top
  obtain ⟨e1,e2,e3,e4⟩:=baseR_small (args:=16*argsN p (atD p.Funcs i).Code) (al:=al) (l:=(atD p.Funcs i).Slots) (by omega) (by omega) hsl.1 hsl.2 hp1 (by omega)
  unfold layout_Shape layout_subject_shape
  refine WP.chk hi fun _=>?_
  refine WP.call (R:=(·=0)) ?_ fun x hx=>WP.ret hx
  dsimp only
  refine WP.call (baseline_sp hi (args24_sp p i hp hi) (by omega) (by omega) (fun s hs=>(hsl.2 s hs).okS) (by omega) hp1) ?_
  intro x hx
  rw [hx,e1]
  clear hx x
  dsimp only
  refine WP.bif (fun wh=>by simp at wh) fun _=>?_
  refine WP.call (args24_sp p i hp hi) ?_
  rintro _ rfl
  refine WP.bif (fun wh=>by exfalso;rw [Bool.not_eq_true',decide_eq_false_iff_not] at wh;exact wh sa) fun _=>?_
  refine WP.bif (fun wh=>by exfalso;rw [Bool.not_eq_true',decide_eq_false_iff_not] at wh;exact wh (by rw [h.len])) fun _=>?_
  refine WP.loop (fun j=>0≤j∧j≤(atD p.Funcs i).Slots.length) (fun j=>(atD p.Funcs i).Slots.length- j.toNat) ⟨by omega,by omega⟩ ?_
  rintro again k ⟨a1,a2⟩ ih
  refine WP.bif (fun wh=>?_) (fun wh=>?_)<;>(try simp only [wpH, ne_eq] at wh)
  · refine WP.call (placed_sp hp hi h ⟨a1,wh⟩) ?_
    rintro _ rfl
    refine WP.bif (fun wh=>by cases wh) fun _=>?_
    refine WP.chk ⟨by omega,by omega⟩ fun _=>?_
    exact ih _ ⟨by omega,by omega⟩ (by omega)
  · refine WP.chk ⟨by omega,by omega⟩ fun _=>?_
    refine WP.bif (fun wh=>by exfalso;rw [Bool.not_eq_true',decide_eq_false_iff_not] at wh;exact wh s3) fun _=>?_
    refine WP.bif (fun wh=>by exfalso;rw [decide_eq_true_eq] at wh;omega) fun _=>?_
    exact WP.bif (fun wh=>by exfalso;rw [decide_eq_true_eq] at wh;omega) fun _=>WP.ret rfl
end
structure LowP (p:AProgram) (al:Int) (l:List ALayout) (t:ATarget):Prop where
  al:t.Align=al
  len:t.Frames.length=p.Funcs.length
  fr:∀i,inN i p.Funcs.length→atD t.Frames i=lowF (atD p.Funcs i) (atD l i)
section
variable {p:AProgram} {al:Int} {l:List ALayout}
theorem target_sp (hp:WfP p) (hal:al=alignP p) (hl:l.length=p.Funcs.length) (hS:∀i,inN i p.Funcs.length→ShapeP p i al (atD l i)):WP (lower_Target p al l) fun r=>r.2=0∧LowP p al l r.1:=by
  have hpl:=hp.len
  unfold lower_Target
  refine WP.bif (fun wh=>by exfalso;rw [Bool.not_eq_true',decide_eq_false_iff_not] at wh;omega) fun _=>?_
  refine WP.loop (fun j=>(0≤j.1∧j.1≤p.Funcs.length)∧(j.2.length:Int)=j.1∧∀t,0≤t→t<j.1→atD j.2 t=lowF (atD p.Funcs t) (atD l t)) (fun j=>p.Funcs.length- j.1.toNat) ⟨⟨by simp,by simp⟩,by simp,fun t h1 h2=>by exfalso;dsimp only at h2;omega⟩ ?_
  rintro again ⟨i,F⟩ ⟨⟨a1,a2⟩,a3,a4⟩ ih
  dsimp only at a1 a2 a3 a4 ih ⊢
  refine WP.bif (fun wh=>?_) (fun wh=>?_)<;>(try simp only [wpH, ne_eq] at wh)
  · have hi:inN i p.Funcs.length:=⟨a1,by omega⟩
    refine WP.chk ⟨a1,wh⟩ fun _=>?_
    refine WP.call (lshape_sp hp hi hal (hS i hi)) ?_
    rintro _ rfl
    refine WP.bif (fun wh=>by simp at wh) fun _=>?_
    refine WP.call (lframe_sp hp hi (hS i hi)) ?_
    rintro _ rfl
    refine WP.chk (by simp only [List.length_singleton];omega) fun _=>?_
    refine WP.chk ⟨by omega,by omega⟩ fun _=>?_
    refine ih _ ⟨⟨by dsimp only;omega,by dsimp only;omega⟩,by simp only [List.length_append,List.length_singleton];omega,fun t q1 q2=>?_⟩ (by dsimp only;omega)
    dsimp only at q2 ⊢
    by_cases ht:t=i
    · rw [ht,atD_last (by omega)]
    · rw [atD_append_left (by omega)];exact a4 t q1 (by omega)
  · exact WP.ret ⟨rfl,rfl,by dsimp only;omega,fun i hi=>a4 i hi.1 (by have:=hi.2;omega)⟩
end
theorem jump_in26 {n i par:Int} {f:AFunc} (hf:WfF n i par f) {k:Int} (hk:inN k f.Code.length):((atD f.Code k).Op=20→inN (atD f.Code k).A f.Code.length)∧((atD f.Code k).Op=21→inN (atD f.Code k).B f.Code.length):=by
  have hI:=hf.at_ hk
  generalize atD f.Code k=x at*
  constructor
  · intro h
    cases hI<;>first| assumption| (simp at h;done)| (exfalso;dsimp only at h;omega)
  · intro h
    cases hI<;>first| assumption| (simp at h;done)| (exfalso;dsimp only at h;omega)
def formB10 (x:AInstr) (q:Bool × Bool × Bool × Bool):Prop:=(q.1=false→x.A=0)∧(q.2.1=false→x.B=0)∧(q.2.2.1=false→x.C=0)∧(q.2.2.2=false→x.Imm=0)
structure InsP (t:ATarget) (f:AFrame) (z:AInstr):Prop where
  op:0≤z.Op∧z.Op<25∧z.Op≠18∧z.Op≠19
  form:WP (r10_Operands z.Op) (formB10 z)
  named:WP (r10_named t z) (·=true)
  size:z.Op=15∨z.Op=16∨z.Op=17→sizeB z.C=true
  rd:z.Op=15∨z.Op=17→0≤z.B∧0≤z.C∧z.B+z.C≤f.Size+16*f.Params
  wr:z.Op=16∨z.Op=17→0≤z.A∧0≤z.C∧z.A+z.C≤f.Size
  j1:z.Op=20→inN z.A f.Code.length
  j2:z.Op=21→inN z.B f.Code.length
  call:z.Op=22→inN z.A t.Frames.length∧16*(atD t.Frames z.A).Params≤f.Size
section
variable {p:AProgram} {i al:Int} {l:List ALayout} {t:ATarget}
theorem ins_ok (hp:WfP p) (hi:inN i p.Funcs.length) (h:ShapeP p i al (atD l i)) (hL:LowP p al l t) {k:Int} (hk:inN k (atD p.Funcs i).Code.length):InsP t (atD t.Frames i) (lowI (atD p.Funcs i) (atD l i) (atD (atD p.Funcs i).Code k)):=by
  have hf:=hp.func i hi.1 hi.2
  have hI:=hf.at_ hk
  obtain ⟨jj1,jj2⟩:=jump_in26 hf hk
  have hpar:=hp.par _ (atD_mem hi)
  have hA:=argsN_R hp hi (l:=(atD p.Funcs i).Code) fun x hx=>hx
  have hneed:=hA.2.2.1 _ (atD_mem hk)
  have hcall:(atD (atD p.Funcs i).Code k).Op=22→(atD t.Frames (atD (atD p.Funcs i).Code k).A).Params=(atD p.Funcs (atD (atD p.Funcs i).Code k).A).Params:=fun h22=>by
    have:=(hI.need hp hi.1).2.2.2 h22
    rw [hL.fr _ ⟨by have:=hi.1;omega,this.2⟩]
    rfl
  have hfr:=hL.fr i hi
  have hlen:=hL.len
  rw [hfr]
  have hcl:(lowF (atD p.Funcs i) (atD l i)).Code.length=(atD p.Funcs i).Code.length:=List.length_map ..
  obtain ⟨s1,s2,s3⟩:=h.sz
  have sa:=h.args
  have soff:=h.off
  have hrs:=hf.rightS
  have hps:(lowF (atD p.Funcs i) (atD l i)).Size=(atD l i).Size:=rfl
  have hpp:(lowF (atD p.Funcs i) (atD l i)).Params=(atD p.Funcs i).Params:=rfl
  have hsz:∀s,inN s (atD p.Funcs i).Slots.length→sizeB (atD (atD p.Funcs i).Slots s).Size=true∧0≤(atD (atD p.Funcs i).Slots s).Size∧0≤atD (atD l i).Off s∧atD (atD l i).Off s+(atD (atD p.Funcs i).Slots s).Size≤(atD l i).Size:=fun s hs=>by
    have h1:=(hrs _ (atD_mem hs)).1
    obtain ⟨o1,o2,o3⟩:=soff s hs
    exact ⟨by simp [sizeB,h1],by omega,by omega,o3⟩
  have hi0:=hi.1
  clear hfr hL hrs soff
  generalize atD p.Funcs i=f at*
  generalize atD l i=y at*
  generalize atD f.Code k=x at*
  generalize lowF f y=g at*
  cases hI with
  | const a w h1 h2=>obtain ⟨b1,b2⟩:=h1;exact ⟨by simp [lowI],by simp [lowI,r10_Operands,r10_memory,r05_Operands,formB10,WP.join_iff26,WP.bif_iff,WP.ret_iff,WP.call_iff],by simp [lowI,r10_named,r10_within,WP.join_iff26,WP.bif_iff,WP.ret_iff,WP.call_iff];omega,by simp [lowI],by simp [lowI],by simp [lowI],by simp [lowI],by simp [lowI],by simp [lowI]⟩
  | copy o a b h1 h2 h3=>obtain ⟨b1,b2⟩:=h2;obtain ⟨b3,b4⟩:=h3;rcases h1 with rfl| rfl<;>exact ⟨by simp [lowI],by simp [lowI,r10_Operands,r10_memory,r05_Operands,formB10,WP.join_iff26,WP.bif_iff,WP.ret_iff,WP.call_iff],by simp [lowI,r10_named,r10_within,WP.join_iff26,WP.bif_iff,WP.ret_iff,WP.call_iff];omega,by simp [lowI],by simp [lowI],by simp [lowI],by simp [lowI],by simp [lowI],by simp [lowI]⟩
  | arith o a b c h1 h2 h3 h4 h5=>
    obtain ⟨b1,b2⟩:=h3;obtain ⟨b3,b4⟩:=h4;obtain ⟨b5,b6⟩:=h5
    have:o=2∨o=3∨o=4∨o=5∨o=6∨o=7∨o=8∨o=9∨o=10∨o=11:=by omega
    rcases this with rfl| rfl| rfl| rfl| rfl| rfl| rfl| rfl| rfl| rfl<;>exact ⟨by simp [lowI],by simp [lowI,r10_Operands,r10_memory,r05_Operands,formB10,WP.join_iff26,WP.bif_iff,WP.ret_iff,WP.call_iff],by simp [lowI,r10_named,r10_within,WP.join_iff26,WP.bif_iff,WP.ret_iff,WP.call_iff];omega,by simp [lowI],by simp [lowI],by simp [lowI],by simp [lowI],by simp [lowI],by simp [lowI]⟩
  | io o a h1 h2=>obtain ⟨b1,b2⟩:=h2;rcases h1 with rfl| rfl<;>exact ⟨by simp [lowI],by simp [lowI,r10_Operands,r10_memory,r05_Operands,formB10,WP.join_iff26,WP.bif_iff,WP.ret_iff,WP.call_iff],by simp [lowI,r10_named,r10_within,WP.join_iff26,WP.bif_iff,WP.ret_iff,WP.call_iff];omega,by simp [lowI],by simp [lowI],by simp [lowI],by simp [lowI],by simp [lowI],by simp [lowI]⟩
  | load a s h1 h2=>
    obtain ⟨b1,b2⟩:=h1
    obtain ⟨z1,z2,z3,z4⟩:=hsz s h2
    exact ⟨by simp [lowI],by simp [lowI,r10_Operands,r10_memory,formB10,WP.bif_iff,WP.ret_iff,WP.call_iff],by simp [lowI,r10_named,r10_within,WP.join_iff26,WP.bif_iff,WP.ret_iff,WP.call_iff];omega,fun _=>z1,fun _=>⟨z3,z2,by simp [lowI];omega⟩,by simp [lowI],by simp [lowI],by simp [lowI],by simp [lowI]⟩
  | store s a h1 h2=>
    obtain ⟨b1,b2⟩:=h2
    obtain ⟨z1,z2,z3,z4⟩:=hsz s h1
    exact ⟨by simp [lowI],by simp [lowI,r10_Operands,r10_memory,formB10,WP.bif_iff,WP.ret_iff,WP.call_iff],by simp [lowI,r10_named,r10_within,WP.join_iff26,WP.bif_iff,WP.ret_iff,WP.call_iff];omega,fun _=>z1,by simp [lowI],fun _=>⟨z3,z2,by simp [lowI];omega⟩,by simp [lowI],by simp [lowI],by simp [lowI]⟩
  | move s u h1 h2 h3=>
    obtain ⟨z1,z2,z3,z4⟩:=hsz s h1
    obtain ⟨w1,w2,w3,w4⟩:=hsz u h2
    exact ⟨by simp [lowI],by simp [lowI,r10_Operands,r10_memory,formB10,WP.bif_iff,WP.ret_iff,WP.call_iff],by simp [lowI,r10_named,r10_within,WP.join_iff26,WP.bif_iff,WP.ret_iff,WP.call_iff],fun _=>z1,fun _=>⟨w3,z2,by simp [lowI];omega⟩,fun _=>⟨z3,z2,by simp [lowI];omega⟩,by simp [lowI],by simp [lowI],by simp [lowI]⟩
  | arg a r h1 h2=>
    obtain ⟨b1,b2⟩:=h1
    obtain ⟨b3,b4⟩:=h2
    simp [needA] at hneed
    exact ⟨by simp [lowI],by simp [lowI,r10_Operands,r10_memory,formB10,WP.bif_iff,WP.ret_iff,WP.call_iff],by simp [lowI,r10_named,r10_within,WP.join_iff26,WP.bif_iff,WP.ret_iff,WP.call_iff];omega,fun _=>by simp [lowI,sizeB],by simp [lowI],fun _=>⟨by simp [lowI];omega,by simp [lowI],by simp [lowI];omega⟩,by simp [lowI],by simp [lowI],by simp [lowI]⟩
  | param a q h1 h2=>
    obtain ⟨b1,b2⟩:=h1
    obtain ⟨b3,b4⟩:=h2
    exact ⟨by simp [lowI],by simp [lowI,r10_Operands,r10_memory,formB10,WP.bif_iff,WP.ret_iff,WP.call_iff],by simp [lowI,r10_named,r10_within,WP.join_iff26,WP.bif_iff,WP.ret_iff,WP.call_iff];omega,fun _=>by simp [lowI,sizeB],fun _=>⟨by simp [lowI];omega,by simp [lowI],by simp [lowI];omega⟩,by simp [lowI],by simp [lowI],by simp [lowI],by simp [lowI]⟩
  | jump u h1=>
    have q:=jj1 rfl
    exact ⟨by simp [lowI],by simp [lowI,r10_Operands,r10_memory,r05_Operands,formB10,WP.join_iff26,WP.bif_iff,WP.ret_iff,WP.call_iff],by simp [lowI,r10_named,r10_within,WP.join_iff26,WP.bif_iff,WP.ret_iff,WP.call_iff],by simp [lowI],by simp [lowI],by simp [lowI],fun _=>by rw [hcl];exact q,by simp [lowI],by simp [lowI]⟩
  | branch a u h1 h2=>
    have q:=jj2 rfl
    obtain ⟨b1,b2⟩:=h1
    exact ⟨by simp [lowI],by simp [lowI,r10_Operands,r10_memory,r05_Operands,formB10,WP.join_iff26,WP.bif_iff,WP.ret_iff,WP.call_iff],by simp [lowI,r10_named,r10_within,WP.join_iff26,WP.bif_iff,WP.ret_iff,WP.call_iff];omega,by simp [lowI],by simp [lowI],by simp [lowI],by simp [lowI],fun _=>by rw [hcl];exact q,by simp [lowI]⟩
  | call u h1 h2=>
    have q:=hcall rfl
    simp [needA] at hneed
    dsimp only at q
    exact ⟨by simp [lowI],by simp [lowI,r10_Operands,r10_memory,r05_Operands,formB10,WP.join_iff26,WP.bif_iff,WP.ret_iff,WP.call_iff],by simp [lowI,r10_named,r10_within,WP.join_iff26,WP.bif_iff,WP.ret_iff,WP.call_iff];omega,by simp [lowI],by simp [lowI],by simp [lowI],by simp [lowI],by simp [lowI],fun _=>⟨⟨by simp [lowI];omega,by simp [lowI];omega⟩,by show 16*(atD t.Frames u).Params≤_;rw [q];omega⟩⟩
  | ret=>exact ⟨by simp [lowI],by simp [lowI,r10_Operands,r10_memory,r05_Operands,formB10,WP.join_iff26,WP.bif_iff,WP.ret_iff,WP.call_iff],by simp [lowI,r10_named,r10_within,WP.join_iff26,WP.bif_iff,WP.ret_iff,WP.call_iff],by simp [lowI],by simp [lowI],by simp [lowI],by simp [lowI],by simp [lowI],by simp [lowI]⟩
  | trap w h1=>exact ⟨by simp [lowI],by simp [lowI,r10_Operands,r10_memory,r05_Operands,formB10,WP.join_iff26,WP.bif_iff,WP.ret_iff,WP.call_iff],by simp [lowI,r10_named,r10_within,WP.join_iff26,WP.bif_iff,WP.ret_iff,WP.call_iff],by simp [lowI],by simp [lowI],by simp [lowI],by simp [lowI],by simp [lowI],by simp [lowI]⟩
end
theorem memory10_sp (o:Int):WP (r10_memory o) (·=decide (o=15∨o=16∨o=17)):=by
  unfold r10_memory
  refine WP.bif (fun wh=>?_) (fun wh=>?_)<;>(try simp only [wpH, ne_eq] at wh)
  · exact WP.ret (by simp [wh])
  · have h:=wh
    refine WP.bif (fun wh=>?_) (fun wh=>?_)<;>(try simp only [wpH, ne_eq] at wh)
    · exact WP.ret (by simp [wh])
    · exact WP.ret (by simp [h,wh])
structure FrP (t:ATarget) (f:AFrame):Prop where
  par:0≤f.Params∧f.Params≤3
  sz:0≤f.Size∧f.Size≤3000∧f.Size % t.Align=0
  len:1≤f.Code.length∧f.Code.length≤800
  last:(atD f.Code ((f.Code.length:Int)- 1)).Op=23∨(atD f.Code ((f.Code.length:Int)- 1)).Op=24
  ins:∀k,inN k f.Code.length→InsP t f (atD f.Code k)
structure TgtP (t:ATarget):Prop where
  al:powB t.Align=true∧16≤t.Align
  len:1≤t.Frames.length∧t.Frames.length≤80
  entry:(atD t.Frames 0).Params=0
  fr:∀i,inN i t.Frames.length→FrP t (atD t.Frames i)
section
variable {t:ATarget}
theorem shape10_sp (ht:TgtP t) {i:Int} (hi:inN i t.Frames.length):WP (r10_shape t (atD t.Frames i)) (·=true):=by
  have hF:=ht.fr i hi
  obtain ⟨p1,p2⟩:=hF.par
  obtain ⟨z1,z2,z3⟩:=hF.sz
  have ha:=ht.al.2
  unfold r10_shape
  refine WP.call (power_sp _) ?_
  rintro _ rfl
  refine WP.bif (fun _=>?_) (fun wh=>by rw [ht.al.1] at wh;cases wh)
  refine WP.bif (fun _=>?_) (fun wh=>by exfalso;rw [decide_eq_false_iff_not] at wh;omega)
  refine WP.bif (fun _=>?_) (fun wh=>by exfalso;rw [decide_eq_false_iff_not] at wh;omega)
  refine WP.bif (fun _=>?_) (fun wh=>by exfalso;rw [decide_eq_false_iff_not] at wh;omega)
  refine WP.bif (fun _=>?_) (fun wh=>by exfalso;rw [decide_eq_false_iff_not] at wh;omega)
  refine WP.chk ⟨by omega,by omega⟩ fun _=>?_
  refine WP.ret ?_
  first| exact decide_eq_true z3| (rw [Int.tmod_eq_emod_of_nonneg (by omega)];exact decide_eq_true z3)
theorem checkInstr10_sp (ht:TgtP t) {i k:Int} (hi:inN i t.Frames.length) (hk:inN k (atD t.Frames i).Code.length):WP (r10_CheckInstr t i k) (·=0):=by
  have hF:=ht.fr i hi
  have hI:=hF.ins k hk
  obtain ⟨pp1,pp2⟩:=hF.par
  obtain ⟨z1,z2,z3⟩:=hF.sz
  have hsh:=shape10_sp ht hi
  unfold r10_CheckInstr
  refine WP.call (within10_sp _ _) ?_
  rintro _ rfl
  refine WP.bif (fun wh=>by exfalso;obtain ⟨q1,q2⟩:=hi;simp at wh;omega) fun _=>?_
  refine WP.chk hi fun _=>?_
  refine WP.call (within10_sp _ _) ?_
  rintro _ rfl
  refine WP.bif (fun wh=>by exfalso;obtain ⟨q1,q2⟩:=hk;simp at wh;omega) fun _=>?_
  refine WP.chk hi fun _=>?_
  refine WP.call hsh ?_
  rintro _ rfl
  refine WP.bif (fun wh=>by cases wh) fun _=>?_
  refine WP.chk hi fun _=>?_
  refine WP.chk hk fun _=>?_
  clear hsh hF
  generalize atD t.Frames i=f at*
  generalize atD f.Code k=x at*
  obtain ⟨o1,o2,o3,o4⟩:=hI.op
  refine WP.call (within10_sp _ _) ?_
  rintro _ rfl
  refine WP.bif (fun wh=>by exfalso;simp at wh;omega) fun _=>?_
  refine WP.bif (fun wh=>by exfalso;rw [decide_eq_true_eq] at wh;exact o3 wh) fun _=>?_
  refine WP.bif (fun wh=>by exfalso;rw [decide_eq_true_eq] at wh;exact o4 wh) fun _=>?_
  refine WP.call hI.form fun q ⟨e1,e2,e3,e4⟩=>?_
  refine WP.join (fun b=>b=false) ?_ ?_
  · rintro _ rfl
    refine WP.bif (fun wh=>by cases wh) fun _=>?_
    refine WP.call hI.named ?_
    rintro _ rfl
    refine WP.bif (fun wh=>by cases wh) fun _=>?_
    refine WP.join (fun _=>True) ?_ ?_
    · intro _ _
      refine WP.join (fun _=>True) ?_ ?_
      · intro _ _
        refine WP.join (fun _=>True) ?_ ?_
        · intro _ _
          refine WP.bif (fun wh=>?_) (fun wh=>?_)<;>(try simp only [wpH, ne_eq] at wh)
          · obtain ⟨q1,q2⟩:=hI.j1 wh
            refine WP.call (within10_sp _ _) ?_
            rintro _ rfl
            refine WP.bif (fun wh=>by exfalso;simp at wh;omega) fun _=>?_
            exact WP.bif (fun wh=>by exfalso;simp at wh;omega) fun _=>WP.ret rfl
          · refine WP.bif (fun wh=>?_) (fun _=>WP.ret rfl)<;>(try simp only [wpH, ne_eq] at wh)
            obtain ⟨q1,q2⟩:=hI.j2 wh
            refine WP.call (within10_sp _ _) ?_
            rintro _ rfl
            exact WP.bif (fun wh=>by exfalso;simp at wh;omega) fun _=>WP.ret rfl
        · intro k5 hk5
          unfold r10_Writes
          refine WP.call (R:=fun r=>r.2=false∨r=(⟨x.A,x.C⟩,true)∧(x.Op=16∨x.Op=17)) ?_ ?_
          · refine WP.bif (fun wh=>?_) (fun wh=>?_)<;>(try simp only [wpH, ne_eq] at wh)
            · exact WP.ret (.inr ⟨rfl,.inl wh⟩)
            · refine WP.bif (fun wh=>?_) (fun wh=>?_)<;>(try simp only [wpH, ne_eq] at wh)
              · exact WP.ret (.inr ⟨rfl,.inr wh⟩)
              · exact WP.ret (.inl rfl)
          · rintro r (hr| ⟨hr,ho⟩)
            · rw [hr]
              exact WP.bif (fun wh=>by cases wh) fun _=>hk5 _ trivial
            · rw [hr]
              obtain ⟨w1,w2,w3⟩:=hI.wr ho
              refine WP.bif (fun _=>?_) fun wh=>by cases wh
              refine WP.call (rinside_sp _ _ (by dsimp only;omega) (by dsimp only;omega) (by dsimp only;omega)) ?_
              rintro _ rfl
              exact WP.bif (fun wh=>by exfalso;simp at wh;omega) fun _=>hk5 _ trivial
      · intro k4 hk4
        unfold r10_Reads
        refine WP.call (R:=fun r=>r.2=false∨r=(⟨x.B,x.C⟩,true)∧(x.Op=15∨x.Op=17)) ?_ ?_
        · refine WP.bif (fun wh=>?_) (fun wh=>?_)<;>(try simp only [wpH, ne_eq] at wh)
          · exact WP.ret (.inr ⟨rfl,.inl wh⟩)
          · refine WP.bif (fun wh=>?_) (fun wh=>?_)<;>(try simp only [wpH, ne_eq] at wh)
            · exact WP.ret (.inr ⟨rfl,.inr wh⟩)
            · exact WP.ret (.inl rfl)
        · rintro r (hr| ⟨hr,ho⟩)
          · rw [hr]
            exact WP.bif (fun wh=>by cases wh) fun _=>hk4 _ trivial
          · rw [hr]
            obtain ⟨w1,w2,w3⟩:=hI.rd ho
            refine WP.bif (fun _=>?_) fun wh=>by cases wh
            refine WP.chk ⟨by omega,by omega⟩ fun _=>?_
            refine WP.chk ⟨by omega,by omega⟩ fun _=>?_
            refine WP.call (rinside_sp _ _ (by dsimp only;omega) (by dsimp only;omega) (by dsimp only;omega)) ?_
            rintro _ rfl
            exact WP.bif (fun wh=>by exfalso;simp at wh;omega) fun _=>hk4 _ trivial
    · intro k3 hk3
      refine WP.call (memory10_sp _) ?_
      rintro _ rfl
      refine WP.bif (fun wh=>?_) (fun _=>hk3 _ trivial)
      rw [decide_eq_true_eq] at wh
      refine WP.call (size_sp _) ?_
      rintro _ rfl
      exact WP.bif (fun wh2=>by rw [hI.size wh] at wh2;cases wh2) fun _=>hk3 _ trivial
  · intro k2 hk2
    obtain ⟨qa,qb,qc,qd⟩:=q
    dsimp only at e1 e2 e3 e4 ⊢
    have hf:=hk2 _ rfl
    cases qa<;>cases qb<;>cases qc<;>cases qd<;>simp_all [WP.bif_iff]
theorem terminator10_sp (o:Int) (h:o=23∨o=24):WP (r05_Terminator o) (·=true):=by
  unfold r05_Terminator
  rcases h with rfl| rfl<;>simp [WP.bif_iff,WP.ret_iff]
theorem checkFrame10_sp (ht:TgtP t) {i:Int} (hi:inN i t.Frames.length):WP (r10_CheckFrame t i) (·=0):=by
  have hF:=ht.fr i hi
  have hc:=hF.len
  have hci:=fun k hk=>checkInstr10_sp ht hi (k:=k) hk
  have hsh:=shape10_sp ht hi
  unfold r10_CheckFrame
  refine WP.call (within10_sp _ _) ?_
  rintro _ rfl
  refine WP.bif (fun wh=>by exfalso;obtain ⟨q1,q2⟩:=hi;simp at wh;omega) fun _=>?_
  refine WP.chk hi fun _=>?_
  refine WP.call hsh ?_
  rintro _ rfl
  refine WP.bif (fun wh=>by cases wh) fun _=>?_
  refine WP.chk hi fun _=>?_
  have hlast:=hF.last
  clear hF hsh
  generalize atD t.Frames i=f at*
  refine WP.bif (fun wh=>by exfalso;rw [decide_eq_true_eq] at wh;omega) fun _=>?_
  refine WP.loop (fun j=>0≤j∧j≤f.Code.length) (fun j=>f.Code.length- j.toNat) ⟨by omega,by omega⟩ ?_
  rintro again k ⟨a1,a2⟩ ih
  refine WP.bif (fun wh=>?_) (fun wh=>?_)<;>(try simp only [wpH, ne_eq] at wh)
  · refine WP.call (hci k ⟨a1,wh⟩) ?_
    rintro _ rfl
    refine WP.bif (fun wh=>by simp at wh) fun _=>?_
    refine WP.chk ⟨by omega,by omega⟩ fun _=>?_
    exact ih _ ⟨by omega,by omega⟩ (by omega)
  · refine WP.bif (fun wh=>by exfalso;rw [decide_eq_true_eq] at wh;omega) fun _=>?_
    refine WP.chk ⟨by omega,by omega⟩ fun _=>?_
    refine WP.chk ⟨by omega,by omega⟩ fun _=>?_
    refine WP.call (terminator10_sp _ hlast) ?_
    rintro _ rfl
    exact WP.bif (fun wh=>by cases wh) fun _=>WP.ret rfl
theorem calls10_sp (ht:TgtP t) {i:Int} (hi:inN i t.Frames.length):WP (r10_calls t (atD t.Frames i)) (·=true):=by
  have hF:=ht.fr i hi
  have hc:=hF.len
  have hins:=hF.ins
  have hz:=hF.sz
  clear hF
  generalize atD t.Frames i=f at*
  unfold r10_calls
  refine WP.loop (fun j=>0≤j∧j≤f.Code.length) (fun j=>f.Code.length- j.toNat) ⟨by omega,by omega⟩ ?_
  rintro again k ⟨a1,a2⟩ ih
  refine WP.bif (fun wh=>?_) (fun _=>WP.ret rfl)<;>(try simp only [wpH, ne_eq] at wh)
  have hkl:=wh
  have hgo:WP (M.chk (okI (k+1)) (again (k+1))) (·=true):=WP.chk ⟨by omega,by omega⟩ fun _=>ih _ ⟨by omega,by omega⟩ (by omega)
  refine WP.chk ⟨a1,hkl⟩ fun _=>?_
  refine WP.bif (fun wh=>?_) (fun _=>hgo)<;>(try simp only [wpH, ne_eq] at wh)
  obtain ⟨q1,q2⟩:=(hins k ⟨a1,hkl⟩).call wh
  have hq:=(ht.fr _ q1).par
  refine WP.chk ⟨a1,hkl⟩ fun _=>?_
  refine WP.chk q1 fun _=>?_
  refine WP.chk ⟨by omega,by omega⟩ fun _=>?_
  exact WP.bif (fun wh=>by exfalso;rw [decide_eq_true_eq] at wh;omega) fun _=>hgo
theorem check10_sp (ht:TgtP t):WP (r10_Check t) (·=0):=by
  have hl:=ht.len
  have he:=ht.entry
  have ha:=ht.al
  unfold r10_Check
  refine WP.bif (fun wh=>by exfalso;rw [decide_eq_true_eq] at wh;omega) fun _=>?_
  refine WP.bif (fun wh=>by exfalso;rw [decide_eq_true_eq] at wh;omega) fun _=>?_
  refine WP.call (power_sp _) ?_
  rintro _ rfl
  refine WP.bif (fun wh=>by rw [ha.1] at wh;cases wh) fun _=>?_
  refine WP.bif (fun wh=>by exfalso;rw [decide_eq_true_eq] at wh;omega) fun _=>?_
  refine WP.chk ⟨by omega,by omega⟩ fun _=>?_
  refine WP.bif (fun wh=>by exfalso;rw [Bool.not_eq_true',decide_eq_false_iff_not] at wh;exact wh he) fun _=>?_
  refine WP.loop (fun j=>0≤j∧j≤t.Frames.length) (fun j=>t.Frames.length- j.toNat) ⟨by omega,by omega⟩ ?_
  rintro again k ⟨a1,a2⟩ ih
  refine WP.bif (fun wh=>?_) (fun wh=>?_)<;>(try simp only [wpH, ne_eq] at wh)
  · refine WP.call (checkFrame10_sp ht ⟨a1,wh⟩) ?_
    rintro _ rfl
    refine WP.bif (fun wh=>by simp at wh) fun _=>?_
    refine WP.chk ⟨by omega,by omega⟩ fun _=>?_
    exact ih _ ⟨by omega,by omega⟩ (by omega)
  · refine WP.loop (fun j=>0≤j∧j≤t.Frames.length) (fun j=>t.Frames.length- j.toNat) ⟨by omega,by omega⟩ ?_
    rintro again2 k2 ⟨b1,b2⟩ ih2
    refine WP.bif (fun wh=>?_) (fun _=>WP.ret rfl)<;>(try simp only [wpH, ne_eq] at wh)
    refine WP.chk ⟨b1,wh⟩ fun _=>?_
    refine WP.call (calls10_sp ht ⟨b1,wh⟩) ?_
    rintro _ rfl
    refine WP.bif (fun wh=>by cases wh) fun _=>?_
    refine WP.chk ⟨by omega,by omega⟩ fun _=>?_
    exact ih2 _ ⟨by omega,by omega⟩ (by omega)
end
theorem low_tgt {p:AProgram} {al:Int} {l:List ALayout} {t:ATarget} (hp:WfP p) (hal:al=alignP p) (hS:∀i,inN i p.Funcs.length→ShapeP p i al (atD l i)) (hL:LowP p al l t):TgtP t:=by
  have hpl:=hp.len
  have hll:=hL.len
  obtain ⟨hp1,hp2,hp3⟩:=alP_pow hp (.inl hal)
  have hR:=(alignP_R hp).1
  unfold alR at hR
  refine ⟨⟨by rw [hL.al];exact hp1,by rw [hL.al,hal];omega⟩,by omega,?_,fun i hi=>?_⟩
  · rw [hL.fr 0 ⟨by omega,by omega⟩]
    exact hp.entry
  · rw [hll] at hi
    have hf:=hp.func i hi.1 hi.2
    have hc:=hf.code
    have hpar:=hp.par _ (atD_mem hi)
    have hsh:=hS i hi
    have hA:=argsN_R hp hi (l:=(atD p.Funcs i).Code) fun x hx=>hx
    obtain ⟨s1,s2,s3⟩:=hsh.sz
    have sa:=hsh.args
    have hins:=fun k hk=>ins_ok hp hi hsh hL (k:=k) hk
    have hcl:(lowF (atD p.Funcs i) (atD l i)).Code.length=(atD p.Funcs i).Code.length:=List.length_map ..
    have hat:∀k,inN k (atD p.Funcs i).Code.length→atD (lowF (atD p.Funcs i) (atD l i)).Code k=lowI (atD p.Funcs i) (atD l i) (atD (atD p.Funcs i).Code k):=fun k hk=>map_at _ hk
    rw [hL.fr i hi] at hins ⊢
    refine ⟨hpar,⟨by show 0≤(atD l i).Size;omega,s2,by rw [hL.al];exact s3⟩,by omega,?_,fun k hk=>?_⟩
    · rw [hcl,hat _ ⟨by omega,by omega⟩]
      have hlo:∀x:AInstr,x.Op=23∨x.Op=24→lowI (atD p.Funcs i) (atD l i) x=x:=fun x hx=>by
        unfold lowI
        rw [if_neg (by omega),if_neg (by omega),if_neg (by omega),if_neg (by omega),if_neg (by omega)]
      rw [hlo _ hf.last]
      exact hf.last
    · rw [hcl] at hk
      rw [hat k hk]
      exact hins k hk
theorem WP.join_iff {α γ:Type} {K:γ→M α} {B:(γ→M α)→M α} {Q:α→Prop}:WP (M.join K B) Q↔WP (B K) Q:=
  ⟨fun ⟨r,h1,h2⟩=>⟨r,M.join_iff.1 h1,h2⟩,fun ⟨r,h1,h2⟩=>⟨r,M.join_iff.2 h1,h2⟩⟩
theorem within5_sp (k n:Int):WP (r05_within k n) (·=decide (0≤k∧k<n)):=by
  unfold r05_within
  refine WP.bif (fun wh=>?_) (fun wh=>?_)<;>(try simp only [wpH, ne_eq] at wh)
  · exact WP.ret (by simp [wh])
  · exact WP.ret (by simp;omega)
theorem operands_sp {n i par:Int} {J:Int→Prop} {p:AProgram} {f:AFunc} {x:AInstr} (hn:n=p.Funcs.length) (hpar:par=f.Params) (hi:0≤i) (h:WfI n i par f.Slots J x):WP (r05_operands p f x) (·=true):=by
  subst hn hpar
  cases h with
  | const a w h1 h2=>obtain ⟨a1,a2⟩:=h1;simp [r05_operands,r05_register,r05_within,WP.join_iff,WP.bif_iff,WP.chk_iff,WP.call_iff,WP.ret_iff];omega
  | copy o a b h1 h2 h3=>obtain ⟨a1,a2⟩:=h2;obtain ⟨b1,b2⟩:=h3;rcases h1 with rfl| rfl<;>(simp [r05_operands,r05_register,r05_within,WP.join_iff,WP.bif_iff,WP.chk_iff,WP.call_iff,WP.ret_iff];omega)
  | arith o a b c h1 h2 h3 h4 h5=>
    obtain ⟨a1,a2⟩:=h3;obtain ⟨b1,b2⟩:=h4;obtain ⟨c1,c2⟩:=h5
    have:o=2∨o=3∨o=4∨o=5∨o=6∨o=7∨o=8∨o=9∨o=10∨o=11:=by omega
    rcases this with rfl| rfl| rfl| rfl| rfl| rfl| rfl| rfl| rfl| rfl<;>(simp [r05_operands,r05_register,r05_within,WP.join_iff,WP.bif_iff,WP.chk_iff,WP.call_iff,WP.ret_iff];omega)
  | io o a h1 h2=>obtain ⟨a1,a2⟩:=h2;rcases h1 with rfl| rfl<;>(simp [r05_operands,r05_register,r05_within,WP.join_iff,WP.bif_iff,WP.chk_iff,WP.call_iff,WP.ret_iff];omega)
  | load a s h1 h2=>obtain ⟨a1,a2⟩:=h1;obtain ⟨b1,b2⟩:=h2;simp [r05_operands,r05_register,r05_within,WP.join_iff,WP.bif_iff,WP.chk_iff,WP.call_iff,WP.ret_iff];omega
  | store s a h1 h2=>obtain ⟨a1,a2⟩:=h1;obtain ⟨b1,b2⟩:=h2;simp [r05_operands,r05_register,r05_within,WP.join_iff,WP.bif_iff,WP.chk_iff,WP.call_iff,WP.ret_iff];omega
  | move s t h1 h2 h3=>obtain ⟨a1,a2⟩:=h1;obtain ⟨b1,b2⟩:=h2;simp [r05_operands,r05_register,r05_within,WP.join_iff,WP.bif_iff,WP.chk_iff,WP.call_iff,WP.ret_iff];omega
  | arg a r h1 h2=>obtain ⟨a1,a2⟩:=h1;obtain ⟨b1,b2⟩:=h2;simp [r05_operands,r05_register,r05_within,WP.join_iff,WP.bif_iff,WP.chk_iff,WP.call_iff,WP.ret_iff];omega
  | param a k h1 h2=>obtain ⟨a1,a2⟩:=h1;obtain ⟨b1,b2⟩:=h2;simp [r05_operands,r05_register,r05_within,WP.join_iff,WP.bif_iff,WP.chk_iff,WP.call_iff,WP.ret_iff];omega
  | jump t h1=>simp [r05_operands,r05_register,r05_within,WP.join_iff,WP.bif_iff,WP.chk_iff,WP.call_iff,WP.ret_iff]
  | branch a t h1 h2=>obtain ⟨a1,a2⟩:=h1;simp [r05_operands,r05_register,r05_within,WP.join_iff,WP.bif_iff,WP.chk_iff,WP.call_iff,WP.ret_iff];omega
  | call g h1 h2=>simp [r05_operands,r05_register,r05_within,WP.join_iff,WP.bif_iff,WP.chk_iff,WP.call_iff,WP.ret_iff];omega
  | ret=>simp [r05_operands,r05_register,r05_within,WP.join_iff,WP.bif_iff,WP.chk_iff,WP.call_iff,WP.ret_iff]
  | trap w h1=>simp [r05_operands,r05_register,r05_within,WP.join_iff,WP.bif_iff,WP.chk_iff,WP.call_iff,WP.ret_iff]
def formB (x:AInstr) (q:Bool × Bool × Bool × Bool):Prop:=(q.1=false→x.A=0)∧(q.2.1=false→x.B=0)∧(q.2.2.1=false→x.C=0)∧(q.2.2.2=false→x.Imm=0)
theorem Operands_sp {n i par:Int} {sl:List ASlot} {J:Int→Prop} {x:AInstr} (h:WfI n i par sl J x):WP (r05_Operands x.Op) (formB x)∧0≤x.Op∧x.Op<25:=by
  cases h with
  | copy o a b h1 h2 h3=>rcases h1 with rfl| rfl<;>simp [r05_Operands,formB,WP.join_iff,WP.bif_iff,WP.ret_iff]
  | arith o a b c h1 h2 h3 h4 h5=>
    have:o=2∨o=3∨o=4∨o=5∨o=6∨o=7∨o=8∨o=9∨o=10∨o=11:=by omega
    rcases this with rfl| rfl| rfl| rfl| rfl| rfl| rfl| rfl| rfl| rfl<;>simp [r05_Operands,formB,WP.join_iff,WP.bif_iff,WP.ret_iff]
  | io o a h1 h2=>rcases h1 with rfl| rfl<;>simp [r05_Operands,formB,WP.join_iff,WP.bif_iff,WP.ret_iff]
  | _=>simp [r05_Operands,formB,WP.join_iff,WP.bif_iff,WP.ret_iff]
theorem checkInstr_sp {p:AProgram} (hp:WfP p) {i k:Int} (hi:inN i p.Funcs.length) (hk:inN k (atD p.Funcs i).Code.length):WP (r05_CheckInstr p i k) (·=0):=by
  have hf:=hp.func i hi.1 hi.2
  have hI:=hf.at_ hk
  obtain ⟨j1,j2⟩:=jump_in26 hf hk
  unfold r05_CheckInstr
  refine WP.call (within5_sp _ _) ?_
  rintro _ rfl
  refine WP.bif (fun wh=>by exfalso;obtain ⟨q1,q2⟩:=hi;simp at wh;omega) fun _=>?_
  refine WP.chk hi fun _=>?_
  refine WP.call (within5_sp _ _) ?_
  rintro _ rfl
  refine WP.bif (fun wh=>by exfalso;obtain ⟨q1,q2⟩:=hk;simp at wh;omega) fun _=>?_
  refine WP.chk hi fun _=>?_
  refine WP.chk hk fun _=>?_
  obtain ⟨o1,o2,o3⟩:=Operands_sp hI
  have hops:=operands_sp (p:=p) (f:=atD p.Funcs i) rfl rfl hi.1 hI
  have hmv:(atD (atD p.Funcs i).Code k).Op=17→inN (atD (atD p.Funcs i).Code k).A (atD p.Funcs i).Slots.length∧inN (atD (atD p.Funcs i).Code k).B (atD p.Funcs i).Slots.length∧(atD (atD p.Funcs i).Slots (atD (atD p.Funcs i).Code k).A).Size=(atD (atD p.Funcs i).Slots (atD (atD p.Funcs i).Code k).B).Size:=fun h17=>by
    generalize atD (atD p.Funcs i).Code k=x at*
    cases hI<;>first| exact ⟨by assumption,by assumption,by assumption⟩| (simp at h17;done)| (exfalso;dsimp only at h17;omega)
  clear hI
  generalize atD p.Funcs i=f at*
  generalize atD f.Code k=x at*
  refine WP.call (within5_sp _ _) ?_
  rintro _ rfl
  refine WP.bif (fun wh=>by exfalso;simp at wh;omega) fun _=>?_
  refine WP.call o1 fun q ⟨e1,e2,e3,e4⟩=>?_
  refine WP.join (fun b=>b=false) ?_ ?_
  · rintro _ rfl
    refine WP.bif (fun wh=>by cases wh) fun _=>?_
    refine WP.call hops ?_
    rintro _ rfl
    refine WP.bif (fun wh=>by cases wh) fun _=>?_
    refine WP.join (fun _=>True) ?_ ?_
    · intro _ _
      refine WP.bif (fun wh=>?_) (fun wh=>?_)<;>(try simp only [wpH, ne_eq] at wh)
      · obtain ⟨q1,q2⟩:=j1 wh
        have h20:=wh
        refine WP.call (within5_sp _ _) ?_
        rintro _ rfl
        refine WP.bif (fun wh=>by exfalso;simp at wh;omega) fun _=>?_
        exact WP.bif (fun wh=>by exfalso;simp at wh;omega) fun _=>WP.ret rfl
      · refine WP.bif (fun wh=>?_) (fun _=>WP.ret rfl)<;>(try simp only [wpH, ne_eq] at wh)
        obtain ⟨q1,q2⟩:=j2 wh
        refine WP.call (within5_sp _ _) ?_
        rintro _ rfl
        exact WP.bif (fun wh=>by exfalso;simp at wh;omega) fun _=>WP.ret rfl
    · intro k3 hk3
      refine WP.bif (fun wh=>?_) (fun _=>hk3 _ trivial)<;>(try simp only [wpH, ne_eq] at wh)
      obtain ⟨m1,m2,m3⟩:=hmv wh
      refine WP.chk m1 fun _=>?_
      refine WP.chk m2 fun _=>?_
      exact WP.bif (fun wh=>by exfalso;rw [Bool.not_eq_true',decide_eq_false_iff_not] at wh;exact wh m3) fun _=>hk3 _ trivial
  · intro k2 hk2
    obtain ⟨qa,qb,qc,qd⟩:=q
    dsimp only at e1 e2 e3 e4 ⊢
    have hf:=hk2 _ rfl
    cases qa<;>cases qb<;>cases qc<;>cases qd<;>simp_all [WP.bif_iff]
theorem terminator_sp (o:Int) (h:o=23∨o=24):WP (r05_Terminator o) (·=true):=by
  unfold r05_Terminator
  rcases h with rfl| rfl<;>simp [WP.bif_iff,WP.ret_iff]
theorem checkFunc_sp {p:AProgram} (hp:WfP p) {i:Int} (hi:inN i p.Funcs.length):WP (r05_CheckFunc p i) (·=0):=by
  have hf:=hp.func i hi.1 hi.2
  have hc:=hf.code
  have hsl:=hf.slots
  have hpar:=hp.par _ (atD_mem hi)
  have hci:=fun k hk=>checkInstr_sp hp hi (k:=k) hk
  unfold r05_CheckFunc
  refine WP.call (within5_sp _ _) ?_
  rintro _ rfl
  refine WP.bif (fun wh=>by exfalso;obtain ⟨q1,q2⟩:=hi;simp at wh;omega) fun _=>?_
  refine WP.chk hi fun _=>?_
  generalize atD p.Funcs i=f at*
  refine WP.bif (fun wh=>by exfalso;rw [decide_eq_true_eq] at wh;omega) fun _=>?_
  refine WP.call (slots3_sp f.Slots (by omega)) ?_
  rintro _ rfl
  rw [slotsE_right (by omega) hf.rightS]
  refine WP.bif (fun wh=>by simp at wh) fun _=>?_
  refine WP.bif (fun wh=>by exfalso;rw [decide_eq_true_eq] at wh;omega) fun _=>?_
  refine WP.bif (fun wh=>by exfalso;rw [decide_eq_true_eq] at wh;omega) fun _=>?_
  refine WP.loop (fun j=>0≤j∧j≤f.Code.length) (fun j=>f.Code.length- j.toNat) ⟨by omega,by omega⟩ ?_
  rintro again k ⟨a1,a2⟩ ih
  refine WP.bif (fun wh=>?_) (fun wh=>?_)<;>(try simp only [wpH, ne_eq] at wh)
  · refine WP.call (hci k ⟨a1,wh⟩) ?_
    rintro _ rfl
    refine WP.bif (fun wh=>by simp at wh) fun _=>?_
    refine WP.chk ⟨by omega,by omega⟩ fun _=>?_
    exact ih _ ⟨by omega,by omega⟩ (by omega)
  · refine WP.bif (fun wh=>by exfalso;rw [decide_eq_true_eq] at wh;omega) fun _=>?_
    refine WP.chk ⟨by omega,by omega⟩ fun _=>?_
    refine WP.chk ⟨by omega,by omega⟩ fun _=>?_
    refine WP.call (terminator_sp _ hf.last) ?_
    rintro _ rfl
    exact WP.bif (fun wh=>by cases wh) fun _=>WP.ret rfl
theorem check5_sp {p:AProgram} (hp:WfP p):WP (r05_Check p) (·=0):=by
  have hl:=hp.len
  have he:=hp.entry
  have hcf:=fun i hi=>checkFunc_sp hp (i:=i) hi
  unfold r05_Check
  refine WP.bif (fun wh=>by exfalso;rw [decide_eq_true_eq] at wh;omega) fun _=>?_
  refine WP.bif (fun wh=>by exfalso;rw [decide_eq_true_eq] at wh;omega) fun _=>?_
  refine WP.chk ⟨by omega,by omega⟩ fun _=>?_
  refine WP.bif (fun wh=>by exfalso;rw [Bool.not_eq_true',decide_eq_false_iff_not] at wh;exact wh he) fun _=>?_
  refine WP.loop (fun j=>0≤j∧j≤p.Funcs.length) (fun j=>p.Funcs.length- j.toNat) ⟨by omega,by omega⟩ ?_
  rintro again k ⟨a1,a2⟩ ih
  refine WP.bif (fun wh=>?_) (fun _=>WP.ret rfl)<;>(try simp only [wpH, ne_eq] at wh)
  refine WP.call (hcf k ⟨a1,wh⟩) ?_
  rintro _ rfl
  refine WP.bif (fun wh=>by simp at wh) fun _=>?_
  refine WP.chk ⟨by omega,by omega⟩ fun _=>?_
  exact ih _ ⟨by omega,by omega⟩ (by omega)
def u64R (n:Int):Prop:=0≤n∧n≤18446744073709551615
def valR (v:AValue):Prop:=u64R v.Lo∧u64R v.Hi
theorem bits_rng (op:BinOp) (h:op=.and∨op=.or∨op=.xor) (a b:Int):u64R (Go.bits op .u64 a b):=by
  have key:∀n:Int,u64R (IntKind.u64.wrap n):=fun n=>by
    rw [IntKind.wrap_u64];unfold u64R;omega
  rcases h with rfl| rfl| rfl
  · exact key _
  · exact key _
  · exact key _
theorem or_rng (a b:Int):u64R (Go.bits .or .u64 a b):=bits_rng .or (.inr (.inl rfl)) a b
theorem and_rng (a b:Int):u64R (Go.bits .and .u64 a b):=bits_rng .and (.inl rfl) a b
theorem xor_rng (a b:Int):u64R (Go.bits .xor .u64 a b):=bits_rng .xor (.inr (.inr rfl)) a b
theorem wrap_rng (n:Int):u64R (IntKind.u64.wrap n):=by rw [IntKind.wrap_u64];unfold u64R;omega
theorem and_one (a:Int):0≤Go.bits .and .u64 a 1∧Go.bits .and .u64 a 1≤1:=by
  show 0≤IntKind.u64.wrap ((BitVec.ofInt 64 a&&&BitVec.ofInt 64 1).toNat:Int)∧IntKind.u64.wrap ((BitVec.ofInt 64 a&&&BitVec.ofInt 64 1).toNat:Int)≤1
  rw [BitVec.toNat_and,IntKind.wrap_u64]
  have h1:(BitVec.ofInt 64 1).toNat=1:=by decide
  have h2:(BitVec.ofInt 64 a).toNat&&&(BitVec.ofInt 64 1).toNat≤1:=by
    have:=Nat.and_le_right (n:=(BitVec.ofInt 64 a).toNat) (m:=(BitVec.ofInt 64 1).toNat)
    rw [h1] at this ⊢;exact this
  omega
theorem bit02_sp (x:AValue) (k:Int) (hk:0≤k∧k<128):WP (r02_bit x k) fun r=>0≤r∧r≤1:=by
  unfold r02_bit
  refine WP.bif (fun w=>?_) (fun w=>?_)<;>(try simp only [wpH, ne_eq] at wh)
  · have w':k<64:=by simpa using w
    exact WP.chk ⟨by omega,by omega⟩ fun _=>WP.ret (and_one _)
  · have w':¬k<64:=by simpa using w
    exact WP.chk ⟨by omega,by omega⟩ fun _=>WP.chk ⟨by omega,by omega⟩ fun _=>WP.ret (and_one _)
theorem set02_sp (x:AValue) (k:Int) (hx:valR x) (hk:0≤k∧k<128):WP (r02_set x k) valR:=by
  unfold r02_set
  refine WP.bif (fun w=>?_) (fun w=>?_)
  · have w':k<64:=by simpa using w
    exact WP.chk ⟨by omega,by omega,pow_64 hk.1 w'⟩ fun _=>WP.ret ⟨or_rng _ _,hx.2⟩
  · have w':¬k<64:=by simpa using w
    refine WP.chk ⟨by omega,by omega⟩ fun _=>WP.chk ⟨by omega,by omega,pow_64 (by omega) (by omega)⟩ fun _=>WP.ret ⟨hx.1,or_rng _ _⟩
theorem add02_sp (x y:AValue):WP (r02_Add x y) valR:=by
  unfold r02_Add
  refine WP.loop (fun j=>0≤j.1∧j.1≤1∧0≤j.2.1∧j.2.1≤128∧valR j.2.2) (fun j=>(128- j.2.1).toNat) ⟨by simp,by simp,by simp,by simp,⟨by simp [u64R],by simp [u64R]⟩⟩ ?_
  rintro again ⟨c,k,out⟩ ⟨a1,a2,a3,a4,a5⟩ ih
  dsimp only at a1 a2 a3 a4 a5 ⊢
  refine WP.bif (fun w=>?_) (fun w=>WP.ret a5)
  have hk:k<128:=by simpa using w
  refine WP.call (bit02_sp x k ⟨a3,hk⟩) fun b1 h1=>?_
  refine WP.call (bit02_sp y k ⟨a3,hk⟩) fun b2 h2=>?_
  have e:(b1+b2+c) / 2 ^ (1:Int).toNat=(b1+b2+c) / 2:=rfl
  refine WP.chk ⟨by omega,by omega⟩ fun _=>WP.chk ⟨by omega,by omega⟩ fun _=>?_
  rw [e]
  refine WP.bif (fun w2=>?_) (fun w2=>?_)
  · refine WP.call (set02_sp out k a5 ⟨a3,hk⟩) fun o ho=>?_
    exact WP.chk ⟨by omega,by omega⟩ fun _=>WP.chk ⟨by omega,by omega⟩ fun _=>ih _ ⟨by dsimp only;omega,by dsimp only;omega,by dsimp only;omega,by dsimp only;omega,ho⟩ (by dsimp only;omega)
  · exact WP.chk ⟨by omega,by omega⟩ fun _=>WP.chk ⟨by omega,by omega⟩ fun _=>ih _ ⟨by dsimp only;omega,by dsimp only;omega,by dsimp only;omega,by dsimp only;omega,a5⟩ (by dsimp only;omega)
theorem sub02_sp (x y:AValue):WP (r02_Sub x y) valR:=by
  unfold r02_Sub
  exact WP.call (add02_sp _ _) fun a _=>WP.call (add02_sp _ _) fun b hb=>WP.ret hb
theorem twice02_sp (x:AValue):WP (r02_twice x) valR:=by
  unfold r02_twice
  exact WP.chk ⟨by omega,by omega⟩ fun _=>WP.chk ⟨by omega,by omega⟩ fun _=>WP.chk ⟨by omega,by omega⟩ fun _=>WP.ret ⟨wrap_rng _,or_rng _ _⟩
theorem less02_sp (x y:AValue):WP (r02_Less x y) fun _=>True:=by
  unfold r02_Less
  exact WP.bif (fun _=>WP.ret trivial) fun _=>WP.bif (fun _=>WP.ret trivial) fun _=>WP.ret trivial
theorem mul02_sp (x y:AValue):WP (r02_Mul x y) valR:=by
  unfold r02_Mul
  refine WP.loop (fun j=> -1≤j.1∧j.1≤127∧valR j.2) (fun j=>(j.1+1).toNat) ⟨by simp,by simp,⟨by simp [u64R],by simp [u64R]⟩⟩ ?_
  rintro again ⟨k,out⟩ ⟨a1,a2,a3⟩ ih
  dsimp only at a1 a2 a3 ⊢
  refine WP.bif (fun w=>?_) (fun w=>WP.ret a3)
  have hk:0≤k:=by simpa using w
  refine WP.call (twice02_sp out) fun o ho=>?_
  refine WP.call (bit02_sp y k ⟨hk,by omega⟩) fun b hb=>?_
  refine WP.bif (fun _=>?_) (fun _=>?_)
  · exact WP.call (add02_sp _ _) fun a ha=>WP.chk ⟨by omega,by omega⟩ fun _=>ih _ ⟨by dsimp only;omega,by dsimp only;omega,ha⟩ (by dsimp only;omega)
  · exact WP.chk ⟨by omega,by omega⟩ fun _=>ih _ ⟨by dsimp only;omega,by dsimp only;omega,ho⟩ (by dsimp only;omega)
theorem div02_sp (x y:AValue):WP (r02_Div x y) valR:=by
  unfold r02_Div
  refine WP.loop (fun j=> -1≤j.1∧j.1≤127∧valR j.2.1) (fun j=>(j.1+1).toNat) ⟨by simp,by simp,⟨by simp [u64R],by simp [u64R]⟩⟩ ?_
  rintro again ⟨k,out,rest⟩ ⟨a1,a2,a3⟩ ih
  dsimp only at a1 a2 a3 ⊢
  refine WP.bif (fun w=>?_) (fun w=>WP.ret a3)
  have hk:0≤k:=by simpa using w
  refine WP.chk ⟨by omega,by omega⟩ fun _=>?_
  refine WP.call (twice02_sp rest) fun r hr=>?_
  refine WP.call (bit02_sp x k ⟨hk,by omega⟩) fun b hb=>?_
  have fin:∀o,valR o→∀r',WP (M.chk (okI (k- 1))<| again ((k- 1),o,r')) valR:=fun o ho r'=>WP.chk ⟨by omega,by omega⟩ fun _=>ih _ ⟨by dsimp only;omega,by dsimp only;omega,ho⟩ (by dsimp only;omega)
  refine WP.bif (fun _=>?_) (fun _=>?_)
  · exact WP.call (sub02_sp _ _) fun z hz=>WP.call (set02_sp out k a3 ⟨hk,by omega⟩) fun o ho=>fin o ho z
  · refine WP.call (less02_sp _ _) fun l _=>?_
    refine WP.bif (fun _=>?_) (fun _=>fin out a3 _)
    exact WP.call (sub02_sp _ _) fun z hz=>WP.call (set02_sp out k a3 ⟨hk,by omega⟩) fun o ho=>fin o ho z
theorem apply02_tot (op:Int) (x y:AValue) (hx:valR x) (hy:valR y):WP (r02_Apply op x y) fun r=>valR r.1:=by
  have z:valR ⟨0,0⟩:=⟨by simp [u64R],by simp [u64R]⟩
  have tr:∀b,WP (r02_truth b) valR:=fun b=>by
    unfold r02_truth
    exact WP.bif (fun _=>WP.ret ⟨by simp [u64R],by simp [u64R]⟩) fun _=>WP.ret z
  unfold r02_Apply
  refine WP.bif (fun _=>WP.call (add02_sp _ _) fun a ha=>WP.ret ha) fun _=>?_
  refine WP.bif (fun _=>WP.call (sub02_sp _ _) fun a ha=>WP.ret ha) fun _=>?_
  refine WP.bif (fun _=>WP.call (mul02_sp _ _) fun a ha=>WP.ret ha) fun _=>?_
  refine WP.bif (fun _=>?_) fun _=>?_
  · refine WP.join (fun _=>True) (fun _ _=>WP.call (div02_sp _ _) fun a ha=>WP.ret ha) fun k hk=>?_
    exact WP.bif (fun _=>WP.bif (fun _=>WP.ret z) fun _=>hk _ trivial) fun _=>hk _ trivial
  refine WP.bif (fun _=>WP.ret ⟨and_rng _ _,and_rng _ _⟩) fun _=>?_
  refine WP.bif (fun _=>WP.ret ⟨or_rng _ _,or_rng _ _⟩) fun _=>?_
  refine WP.bif (fun _=>WP.ret ⟨xor_rng _ _,xor_rng _ _⟩) fun _=>?_
  refine WP.bif (fun _=>WP.call (less02_sp _ _) fun a _=>WP.call (tr a) fun b hb=>WP.ret hb) fun _=>?_
  exact WP.bif (fun _=>WP.call (tr _) fun b hb=>WP.ret hb) fun _=>WP.ret z
noncomputable def applyV (op:Int) (x y:AValue):AValue × Bool:=by
  classical exact if h:∃r,r02_Apply op x y r∧valR r.1 then Classical.choose h else (⟨0,0⟩,false)
theorem apply02_sp (op:Int) (x y:AValue) (hx:valR x) (hy:valR y):WP (r02_Apply op x y) (·=applyV op x y)∧valR (applyV op x y).1:=by
  have h:∃r,r02_Apply op x y r∧valR r.1:=apply02_tot op x y hx hy
  have e:applyV op x y=Classical.choose h:=by unfold applyV;rw [dif_pos h]
  rw [e]
  exact ⟨⟨_,(Classical.choose_spec h).1,rfl⟩,(Classical.choose_spec h).2⟩
def sizeR (n:Int):Prop:=n=1∨n=2∨n=4∨n=8∨n=16
instance (n:Int):Decidable (sizeR n):=by unfold sizeR;infer_instance
theorem size02_sp (n:Int):WP (r02_Size n) (·=decide (sizeR n)):=by
  unfold r02_Size sizeR
  (repeat' (first | (refine WP.chk (by (first | omega | (simp only [okI, List.length_append, List.length_cons, List.length_nil, length_setD, length_repD] at *; omega))) fun _ => ?_) | ((refine WP.bif (fun wh => ?_) (fun wh => ?_)) <;> (try simp only [wpH, ne_eq] at wh) <;> (try (exfalso; omega)))))
  all_goals (refine WP.ret ?_;simp [*])
def byteV (x:AValue) (k:Int):Int:=if k<8 then (x.Lo / 2 ^ (8*k).toNat) % 256 else (x.Hi / 2 ^ (8*(k- 8)).toNat) % 256
theorem byteV_rng (x:AValue) (k:Int):0≤byteV x k∧byteV x k≤255:=by
  unfold byteV
  split<;>omega
def bytesV (x:AValue) (n:Int):List Int:=(List.range n.toNat).map fun k:Nat=>byteV x (k:Int)
theorem bytesV_length (x:AValue) (n:Int):(bytesV x n).length=n.toNat:=by simp [bytesV]
theorem bytesV_at (x:AValue) {n k:Int} (hk:0≤k∧k<n):atD (bytesV x n) k=byteV x k:=by
  have h:k.toNat<(bytesV x n).length:=by rw [bytesV_length];omega
  have:=atD_nat h
  rw [Int.toNat_of_nonneg hk.1] at this
  rw [this]
  simp [bytesV,Int.toNat_of_nonneg hk.1]
theorem bytes02_sp (x:AValue) (n:Int) (hx:valR x) (hn:sizeR n):WP (r02_Bytes x n) (·=bytesV x n):=by
  have hn2:1≤n∧n≤16:=by unfold sizeR at hn;omega
  unfold r02_Bytes
  refine WP.loop (fun j=>0≤j.1∧j.1≤n∧j.2=bytesV x j.1) (fun j=>(n- j.1).toNat) ⟨by simp,by dsimp only;omega,rfl⟩ ?_
  rintro again ⟨k,out⟩ ⟨a1,a2,a3⟩ ih
  dsimp only at a1 a2 a3 ⊢
  refine WP.call (size02_sp n) ?_
  rintro _ rfl
  refine WP.bif (fun _=>?_) (fun w=>by simp [hn] at w)
  have hl:out.length=k.toNat:=by rw [a3,bytesV_length]
  have hnext:k<n→out++[byteV x k]=bytesV x (k+1):=fun hk=>by
    rw [a3]
    unfold bytesV
    rw [show (k+1).toNat=k.toNat+1 by omega,List.range_succ,List.map_append]
    simp [Int.toNat_of_nonneg a1]
  refine WP.bif (fun w=>?_) (fun w=>?_)
  · have hk:k<n:=by simpa using w
    refine WP.bif (fun w8=>?_) (fun w8=>?_)
    · have h8:k<8:=by simpa using w8
      refine WP.chk ⟨by omega,by omega⟩ fun _=>WP.chk ⟨by omega,by omega⟩ fun _=>WP.chk (by simp only [List.length_cons,List.length_nil];omega) fun _=>WP.chk ⟨by omega,by omega⟩ fun _=>?_
      refine ih _ ⟨by dsimp only;omega,by dsimp only;omega,?_⟩ (by dsimp only;omega)
      dsimp only
      rw [←hnext hk]
      unfold byteV
      rw [if_pos h8]
      rw [IntKind.wrap_u8]
    · have h8:¬k<8:=by simpa using w8
      refine WP.chk ⟨by omega,by omega⟩ fun _=>WP.chk ⟨by omega,by omega⟩ fun _=>WP.chk ⟨by omega,by omega⟩ fun _=>WP.chk (by simp only [List.length_cons,List.length_nil];omega) fun _=>WP.chk ⟨by omega,by omega⟩ fun _=>?_
      refine ih _ ⟨by dsimp only;omega,by dsimp only;omega,?_⟩ (by dsimp only;omega)
      dsimp only
      rw [←hnext hk]
      unfold byteV
      rw [if_neg h8]
      rw [IntKind.wrap_u8]
  · have hk:¬k<n:=by simpa using w
    refine WP.ret ?_
    rw [a3];congr 1;omega
def wordB (b:List Int) (i:Int):Nat→Int
  | 0=>0
  | c+1=>wordB b i c+(if i+c<b.length then atD b (i+c)*2 ^ (8*c) else 0)
def fromB (b:List Int):AValue:=⟨wordB b 0 8,wordB b 8 8⟩
def bytesR (b:List Int):Prop:=∀z∈b,0≤z∧z≤255
theorem pow8:∀c:Nat,c<8→1≤(2:Int) ^ (8*c)∧256*(2:Int) ^ (8*c)≤18446744073709551616∧(2:Int) ^ (8*(c+1))=256*(2:Int) ^ (8*c)
  | 0,_=>by decide
  | 1,_=>by decide
  | 2,_=>by decide
  | 3,_=>by decide
  | 4,_=>by decide
  | 5,_=>by decide
  | 6,_=>by decide
  | 7,_=>by decide
  | n+8,h=>by omega
theorem wordB_lt {b:List Int} (hb:bytesR b) {i:Int} (hi:0≤i):∀c:Nat,c≤8→0≤wordB b i c∧wordB b i c<2 ^ (8*c)
  | 0,_=>by simp [wordB]
  | c+1,hc=>by
    have ih:=wordB_lt hb hi c (by omega)
    obtain ⟨h1,h2,h3⟩:=pow8 c (by omega)
    rw [h3]
    unfold wordB
    generalize (2:Int) ^ (8*c)=P at*
    split
    · rename_i hlt
      have hz:=hb _ (atD_mem ⟨by omega,hlt⟩)
      generalize atD b (i+c)=z at*
      have q1:0≤z*P:=Int.mul_nonneg hz.1 (by omega)
      have q2:z*P≤255*P:=Int.mul_le_mul_of_nonneg_right hz.2 (by omega)
      omega
    · omega
theorem or_word {b:List Int} (hb:bytesR b) {i:Int} (hi:0≤i) {c:Nat} (hc:c<8) (hl:i+c<b.length):
    (0≤atD b (i+c)∧atD b (i+c)≤255)∧(0≤atD b (i+c)*2 ^ (8*c)∧atD b (i+c)*2 ^ (8*c)≤18446744073709551615)∧Go.bits .or .u64 (wordB b i c) (atD b (i+c)*2 ^ (8*c))=wordB b i (c+1):=by
  have hz:=hb _ (atD_mem (l:=b) (i:=i+c) ⟨by omega,hl⟩)
  obtain ⟨h1,h2,h3⟩:=pow8 c hc
  obtain ⟨w1,w2⟩:=wordB_lt hb hi c (by omega)
  have e:wordB b i (c+1)=wordB b i c+atD b (i+c)*2 ^ (8*c):=by
    show wordB b i c+(if i+c<b.length then _ else 0)=_
    rw [if_pos hl]
  have q1:0≤atD b (i+c)*2 ^ (8*c):=Int.mul_nonneg hz.1 (by omega)
  have q2:atD b (i+c)*2 ^ (8*c)≤255*2 ^ (8*c):=Int.mul_le_mul_of_nonneg_right hz.2 (by omega)
  refine ⟨hz,⟨q1,by omega⟩,?_⟩
  rw [e]
  refine bits_join_low .u64 64 (by decide) wraps_u64 (8*c) _ _ w1 w2 ?_ q1 (Int.mul_emod_left _ _) ?_
  · exact Int.lt_of_lt_of_le w2 (by have : (2 : Int) ^ 64 = 18446744073709551616 := by decide
                                    omega)
  · have:(2:Int) ^ 64=18446744073709551616:=by decide
    omega
theorem from02_sp (b:List Int) (hb:bytesR b) (hl:b.length≤16):WP (r02_FromBytes b) (·=fromB b):=by
  have wz:∀(i:Int) (c d:Nat),c≤d→(b.length:Int)≤i+c→wordB b i d=wordB b i c:=fun i c d hcd hle=>by
    induction d with
    | zero=>rw [show c=0 by omega]
    | succ d ih=>
      by_cases h:c=d+1
      · rw [h]
      · show wordB b i d+(if i+d<b.length then _ else 0)=_
        rw [if_neg (by omega),ih (by omega),Int.add_zero]
  unfold r02_FromBytes
  refine WP.loop (fun j=>0≤j.1∧j.1≤b.length∧j.2.1=wordB b 0 (min j.1.toNat 8)∧j.2.2=wordB b 8 (j.1.toNat- 8)) (fun j=>(b.length- j.1).toNat) ⟨by simp,by simp,rfl,rfl⟩ ?_
  rintro again ⟨k,Lo,Hi⟩ ⟨a1,a2,a3,a4⟩ ih
  dsimp only at a1 a2 a3 a4 ⊢
  refine WP.bif (fun w=>?_) (fun w=>?_)
  · have hk:k<b.length:=by simpa using w
    refine WP.bif (fun w16=>?_) (fun w16=>?_)
    · refine WP.bif (fun w8=>?_) (fun w8=>?_)
      · have h8:k<8:=by simpa using w8
        have h:=or_word hb (i:=0) (by omega) (c:=k.toNat) (by omega) (by omega)
        rw [show (0:Int)+(k.toNat:Int)=k by omega] at h
        obtain ⟨h1,h2,h3⟩:=h
        have e8:((8:Int)*k).toNat=8*k.toNat:=by omega
        rw [e8,a3,show min k.toNat 8=k.toNat by omega,h3]
        refine WP.chk ⟨a1,hk⟩ fun _=>WP.chk ⟨by omega,by omega⟩ fun _=>WP.chk ⟨by omega,by omega⟩ fun _=>WP.chk ⟨by omega,by omega,h2⟩ fun _=>WP.chk ⟨by omega,by omega⟩ fun _=>?_
        refine ih _ ⟨by dsimp only;omega,by dsimp only;omega,?_,?_⟩ (by dsimp only;omega)
        · dsimp only;congr 1;omega
        · dsimp only;rw [a4,show k.toNat- 8=0 by omega,show (k+1).toNat- 8=0 by omega]
      · have h8:¬k<8:=by simpa using w8
        have h:=or_word hb (i:=8) (by omega) (c:=k.toNat- 8) (by omega) (by omega)
        rw [show (8:Int)+((k.toNat- 8:Nat):Int)=k by omega] at h
        obtain ⟨h1,h2,h3⟩:=h
        have e8:((8:Int)*(k- 8)).toNat=8*(k.toNat- 8):=by omega
        rw [e8,a4,h3]
        refine WP.chk ⟨a1,hk⟩ fun _=>WP.chk ⟨by omega,by omega⟩ fun _=>WP.chk ⟨by omega,by omega⟩ fun _=>WP.chk ⟨by omega,by omega⟩ fun _=>WP.chk ⟨by omega,by omega,h2⟩ fun _=>WP.chk ⟨by omega,by omega⟩ fun _=>?_
        refine ih _ ⟨by dsimp only;omega,by dsimp only;omega,?_,?_⟩ (by dsimp only;omega)
        · dsimp only;rw [a3];congr 1;omega
        · dsimp only;congr 1;omega
    · have h16:¬k<16:=by simpa using w16
      omega
  · have hk:¬k<b.length:=by simpa using w
    have hkl:k=b.length:=by omega
    refine WP.ret ?_
    unfold fromB
    have e1:wordB b 0 8=wordB b 0 (min k.toNat 8):=by
      by_cases h8:k<8
      · exact wz 0 (min k.toNat 8) 8 (by omega) (by omega)
      · rw [show min k.toNat 8=8 by omega]
    rw [a3,a4,e1,wz 8 (k.toNat- 8) 8 (by omega) (by omega)]
theorem bytesV_rng (x:AValue) (n:Int):bytesR (bytesV x n):=fun z hz=>by
  obtain ⟨k,_,rfl⟩:=List.mem_map.1 hz
  exact byteV_rng x k
theorem mod_step {a P:Int} (ha:0≤a) (hP:0<P):a % (256*P)=a % P+a / P % 256*P:=by
  have h1:a % P=a- P*(a / P):=Int.emod_def a P
  have h0:=Int.emod_nonneg a (Int.ne_of_gt hP)
  have h2:=Int.emod_lt_of_pos a hP
  generalize a / P=q at*
  have h3:q % 256*P=q*P- 256*(q / 256)*P:=by rw [Int.emod_def,Int.sub_mul]
  have h4:256*P*(q / 256)=256*(q / 256)*P:=by rw [Int.mul_assoc,Int.mul_comm P,←Int.mul_assoc]
  have h5:P*q=q*P:=Int.mul_comm _ _
  have h6:0≤q % 256*P:=Int.mul_nonneg (by omega) (by omega)
  have h7:q % 256*P≤255*P:=Int.mul_le_mul_of_nonneg_right (by omega) (by omega)
  have e:a=(a % P+q % 256*P)+256*P*(q / 256):=by rw [h1,h3,h4,h5];omega
  have e2:a % (256*P)=((a % P+q % 256*P)+256*P*(q / 256)) % (256*P):=congrArg (· % (256*P)) e
  rw [e2,Int.add_mul_emod_self_left]
  exact Int.emod_eq_of_lt (by omega) (by omega)
theorem word_bytes (x:AValue) (n:Int) (hx:valR x) (hn:sizeR n):(∀c:Nat,c≤8→(c:Int)≤n→wordB (bytesV x n) 0 c=x.Lo % 2 ^ (8*c))∧(∀c:Nat,c≤8→(c:Int)+8≤n→wordB (bytesV x n) 8 c=x.Hi % 2 ^ (8*c)):=by
  have hlen:((bytesV x n).length:Int)=n:=by rw [bytesV_length];unfold sizeR at hn;omega
  constructor
  · intro c
    induction c with
    | zero=>intro _ _;simp [wordB,Int.emod_one]
    | succ c ih=>
      intro h1 h2
      obtain ⟨p1,p2,p3⟩:=pow8 c (by omega)
      show wordB (bytesV x n) 0 c+(if _ then _ else 0)=_
      rw [ih (by omega) (by omega),if_pos (by omega),bytesV_at x ⟨by omega,by omega⟩,p3,mod_step hx.1.1 (by omega)]
      unfold byteV
      rw [if_pos (by omega),show ((8:Int)*(0+(c:Int))).toNat=8*c by omega]
  · intro c
    induction c with
    | zero=>intro _ _;simp [wordB,Int.emod_one]
    | succ c ih=>
      intro h1 h2
      obtain ⟨p1,p2,p3⟩:=pow8 c (by omega)
      show wordB (bytesV x n) 8 c+(if _ then _ else 0)=_
      rw [ih (by omega) (by omega),if_pos (by omega),bytesV_at x ⟨by omega,by omega⟩,p3,mod_step hx.2.1 (by omega)]
      unfold byteV
      rw [if_neg (by omega),show ((8:Int)*(8+(c:Int)- 8)).toNat=8*c by omega]
def truncV (x:AValue) (n:Int):AValue:=fromB (bytesV x n)
theorem wordB_end {b:List Int} {i:Int}:∀(d c:Nat),c≤d→(b.length:Int)≤i+c→wordB b i d=wordB b i c
  | 0,c,h,_=>by rw [show c=0 by omega]
  | d+1,c,hcd,hle=>by
    by_cases h:c=d+1
    · rw [h]
    · show wordB b i d+(if i+d<b.length then _ else 0)=_
      rw [if_neg (by omega),wordB_end d c (by omega) hle,Int.add_zero]
theorem trunc_eq (x:AValue) (n:Int) (hx:valR x) (hn:sizeR n):truncV x n=⟨if n<8 then x.Lo % 2 ^ (8*n.toNat) else x.Lo,if n=16 then x.Hi else 0⟩:=by
  obtain ⟨h1,h2⟩:=word_bytes x n hx hn
  have hlen:((bytesV x n).length:Int)=n:=by rw [bytesV_length];unfold sizeR at hn;omega
  have p64:(2:Int) ^ (8*8)=18446744073709551616:=by decide
  have hxl:=hx.1
  have hxh:=hx.2
  unfold u64R at hxl hxh
  unfold truncV fromB
  congr 1
  · by_cases hn8:n<8
    · rw [if_pos hn8,wordB_end 8 n.toNat (by omega) (by unfold sizeR at hn;omega),h1 n.toNat (by omega) (by unfold sizeR at hn;omega)]
    · rw [if_neg hn8,h1 8 (by omega) (by omega),p64];omega
  · by_cases hn16:n=16
    · rw [if_pos hn16,h2 8 (by omega) (by omega),p64];omega
    · rw [if_neg hn16,wordB_end 8 0 (by omega) (by unfold sizeR at hn;omega)];rfl
theorem trunc_rng (x:AValue) (n:Int) (hx:valR x) (hn:sizeR n):valR (truncV x n):=by
  rw [trunc_eq x n hx hn]
  have hxl:=hx.1
  have hxh:=hx.2
  constructor
  · dsimp only
    split
    · have hp:(0:Int)<2 ^ (8*n.toNat):=by
        have:∃m:Nat,m=8*n.toNat:=⟨_,rfl⟩
        obtain ⟨m,hm⟩:=this
        rw [←hm]
        exact Int.pow_pos (by decide)
      have q1:=Int.emod_nonneg x.Lo (Int.ne_of_gt hp)
      have q2:x.Lo % 2 ^ (8*n.toNat)≤x.Lo:=by
        have:=Int.emod_def x.Lo (2 ^ (8*n.toNat))
        have q3:0≤2 ^ (8*n.toNat)*(x.Lo / 2 ^ (8*n.toNat)):=Int.mul_nonneg (by omega) (Int.ediv_nonneg hxl.1 (by omega))
        omega
      unfold u64R at*
      omega
    · exact hxl
  · dsimp only
    split
    · exact hxh
    · unfold u64R;omega
theorem trunc_16 (x:AValue) (hx:valR x):truncV x 16=x:=by
  rw [trunc_eq x 16 hx (by unfold sizeR;omega)]
  simp
theorem trunc_idem (x:AValue) (n:Int) (hx:valR x) (hn:sizeR n):truncV (truncV x n) n=truncV x n:=by
  rw [trunc_eq (truncV x n) n (trunc_rng x n hx hn) hn]
  rw [trunc_eq x n hx hn]
  dsimp only
  congr 1
  · by_cases h:n<8
    · rw [if_pos h,if_pos h,Int.emod_emod]
    · rw [if_neg h,if_neg h]
  · by_cases h:n=16
    · rw [if_pos h,if_pos h]
    · rw [if_neg h,if_neg h]
theorem trunc02_sp (x:AValue) (n:Int) (hx:valR x) (hn:sizeR n):WP (r02_Truncate x n) (·=truncV x n):=by
  unfold r02_Truncate
  refine WP.call (bytes02_sp x n hx hn) ?_
  rintro _ rfl
  refine WP.call (from02_sp _ (bytesV_rng x n) (by rw [bytesV_length];unfold sizeR at hn;omega)) ?_
  rintro _ rfl
  exact WP.ret rfl
end Go.Proofs.YtgbkhjllbgmdcaaGreat.Q
