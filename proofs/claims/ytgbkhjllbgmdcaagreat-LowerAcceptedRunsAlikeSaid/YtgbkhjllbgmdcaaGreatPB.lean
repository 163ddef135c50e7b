/- Texts of the claim, one behind the other. -/
import Derived.Test.YtgbkhjllbgmdcaaGreatPA
import Derived.Lib.EndianBits
import Derived.Laws.Bits64
set_option linter.unusedVariables false
set_option linter.unusedSimpArgs false
namespace Go.Proofs.YtgbkhjllbgmdcaaGreat.Q
theorem rinsideM_sp (a:AInterval) (m:Int):WP (r03_Inside a m) fun b=>(b=true→rgtP a∧a.Off+a.Size≤m):=by
 unfold r03_Inside
 refine WP.call (rrightG_sp a) fun b hb=>?_
 refine WP.bif (fun wh=>?_) (fun wh=>WP.ret fun q=>by cases q)
 have h:=hb.1 wh
 have h':=h
 unfold rgtP at h'
 refine WP.chk ⟨by omega,by omega⟩ fun _=>?_
 exact WP.ret fun q=>⟨h,by simpa using q⟩
structure ShapeP (p:AProgram) (i al:Int) (y:ALayout):Prop where
 args:y.Args=16*argsN p (atD p.Funcs i).Code
 len:y.Off.length=(atD p.Funcs i).Slots.length
 off:∀k,inN k (atD p.Funcs i).Slots.length→y.Args≤atD y.Off k∧atD y.Off k % (atD (atD p.Funcs i).Slots k).Align=0∧atD y.Off k+(atD (atD p.Funcs i).Slots k).Size≤y.Size
 sz:y.Args≤y.Size∧y.Size≤3000∧y.Size % al=0
 top:y.Size≤upZ (offL (16*argsN p (atD p.Funcs i).Code) (atD p.Funcs i).Slots).2 al
section
variable {p:AProgram} {i al:Int}
theorem base_shape (hp:WfP p) (hi:inN i p.Funcs.length) (hal:al=alignP p):WP (r24_Baseline p i al) fun r=>r.2=0∧ShapeP p i al r.1∧r.1.Size≤3000∧r.1.Size=upZ (offL (16*argsN p (atD p.Funcs i).Code) (atD p.Funcs i).Slots).2 al:=by
 have hsl:=hp.slotsR (atD_mem hi)
 have hA:=argsN_R hp hi (l:=(atD p.Funcs i).Code) fun x hx=>hx
 obtain ⟨hp1,hp2,hp3⟩:=alP_pow hp (.inl hal)
 refine (rbaseline_sp hi (rargs24_sp p i hp hi) (by omega) (by omega) (fun s hs=>(hsl.2 s hs).okS) (by omega) hp1).mono fun r hr=>?_
 obtain ⟨e1,e2,e3,e4⟩:=baseR_small (args:=16*argsN p (atD p.Funcs i).Code) (al:=al) (l:=(atD p.Funcs i).Slots) (by omega) (by omega) hsl.1 hsl.2 hp1 (by omega)
 have hle:=offL_len (16*argsN p (atD p.Funcs i).Code) (atD p.Funcs i).Slots
 have hzm:=upZ_mod (offL (16*argsN p (atD p.Funcs i).Code) (atD p.Funcs i).Slots).2 al
 have hzl:=upZ_le (n:=(offL (16*argsN p (atD p.Funcs i).Code) (atD p.Funcs i).Slots).2) hp3
 have hof:=fun k hk=>off_facts (e:=16*argsN p (atD p.Funcs i).Code) (fun s hs=>(hsl.2 s hs).okS) k (hk:inN k (atD p.Funcs i).Slots.length)
 rw [e1] at hr
 subst hr
 refine ⟨rfl,⟨rfl,hle,fun k hk=>?_,⟨by dsimp only;omega,by dsimp only;omega,hzm⟩,Int.le_refl _⟩,e4,rfl⟩
 obtain ⟨g1,g2,g3,g4,g5,_⟩:=hof k hk
 exact ⟨g1,g5,by dsimp only;omega⟩
theorem rshape_sp (hp:WfP p) (hi:inN i p.Funcs.length) (hal:al=alignP p) (y:ALayout):WP (r25_Shape p i al y) fun e=>e=0→ShapeP p i al y:=by
 have hsl:=hp.slotsR (atD_mem hi)
 have hA:=argsN_R hp hi (l:=(atD p.Funcs i).Code) fun x hx=>hx
 obtain ⟨hp1,hp2,hp3⟩:=alP_pow hp (.inl hal)
 unfold r25_Shape
 refine WP.call (base_shape hp hi hal) fun x1 ⟨b1,_,b3,b4⟩=>?_
 rw [b1]
 refine WP.bif (fun wh=>by simp at wh) fun _=>?_
 refine WP.chk hi fun _=>?_
 refine WP.call (rargs24_sp p i hp hi) ?_
 rintro _ rfl
 refine WP.bif (fun _=>WP.ret fun q=>by simp at q) fun wh=>?_
 rw [Bool.not_eq_false',decide_eq_true_eq] at wh
 have hargs:=wh
 refine WP.bif (fun _=>WP.ret fun q=>by simp at q) fun wh=>?_
 rw [Bool.not_eq_false',decide_eq_true_eq] at wh
 have hlen:y.Off.length=(atD p.Funcs i).Slots.length:=by omega
 refine WP.loop (fun j=>(0≤j∧j≤(atD p.Funcs i).Slots.length)∧∀k,0≤k→k<j→y.Args≤atD y.Off k∧atD y.Off k % (atD (atD p.Funcs i).Slots k).Align=0∧atD y.Off k+(atD (atD p.Funcs i).Slots k).Size≤y.Size) (fun j=>(atD p.Funcs i).Slots.length- j.toNat) ⟨⟨by omega,by omega⟩,fun k q1 q2=>by exfalso;omega⟩ ?_
 rintro again k ⟨⟨a1,a2⟩,a3⟩ ih
 refine WP.bif (fun wh=>?_) (fun wh=>?_)<;>(try simp only [wpH] at wh)
 ·have hkl:=wh
  have hr:=hsl.2 _ (atD_mem (l:=(atD p.Funcs i).Slots) ⟨a1,wh⟩)
  have hal0:1≤(atD (atD p.Funcs i).Slots k).Align:=by have:=hr.2;omega
  refine WP.chk ⟨by omega,by omega⟩ fun _=>?_
  refine WP.bif (fun _=>WP.ret fun q=>by simp at q) fun wh=>?_
  rw [decide_eq_false_iff_not] at wh
  have hge:y.Args≤atD y.Off k:=by omega
  refine WP.chk ⟨by omega,by omega⟩ fun _=>?_
  refine WP.chk ⟨by omega,by omega⟩ fun _=>?_
  refine WP.chk (by omega) fun _=>?_
  refine WP.bif (fun _=>WP.ret fun q=>by simp at q) fun wh=>?_
  rw [Bool.not_eq_false',decide_eq_true_eq,Int.tmod_eq_emod_of_nonneg (by omega)] at wh
  have hm:=wh
  refine WP.chk ⟨by omega,by omega⟩ fun _=>?_
  refine WP.chk ⟨by omega,by omega⟩ fun _=>?_
  refine WP.call (rinsideM_sp _ _) fun b hb=>?_
  refine WP.bif (fun _=>WP.ret fun q=>by simp at q) fun wh=>?_
  have hin:=(hb (by simpa using wh)).2
  refine WP.chk ⟨by omega,by omega⟩ fun _=>?_
  refine ih _ ⟨⟨by omega,by omega⟩,fun t q1 q2=>?_⟩ (by omega)
  by_cases ht:t=k
  ·rw [ht];exact ⟨hge,hm,hin⟩
  ·exact a3 t q1 (by omega)
 ·refine WP.chk (by omega) fun _=>?_
  refine WP.bif (fun _=>WP.ret fun q=>by simp at q) fun wh=>?_
  rw [Bool.not_eq_false',decide_eq_true_eq] at wh
  have hm:=wh
  refine WP.bif (fun _=>WP.ret fun q=>by simp at q) fun wh=>?_
  rw [decide_eq_false_iff_not] at wh
  have h1:=wh
  refine WP.bif (fun _=>WP.ret fun q=>by simp at q) fun wh=>?_
  rw [decide_eq_false_iff_not] at wh
  rw [Int.tmod_eq_emod_of_nonneg (by omega)] at hm
  exact WP.ret fun _=>⟨hargs,hlen,fun k hk=>a3 k hk.1 (by have:=hk.2;omega),⟨by omega,by omega,hm⟩,by omega⟩
end
def lowI (f:AFunc) (y:ALayout) (x:AInstr):AInstr:=if x.Op=15 then ⟨15,x.A,atD y.Off x.B,(atD f.Slots x.B).Size,0⟩ else if x.Op=16 then ⟨16,atD y.Off x.A,x.B,(atD f.Slots x.A).Size,0⟩ else if x.Op=17 then ⟨17,atD y.Off x.A,atD y.Off x.B,(atD f.Slots x.A).Size,0⟩ else if x.Op=18 then ⟨16,16*x.A,x.B,16,0⟩ else if x.Op=19 then ⟨15,x.A,y.Size+16*x.B,16,0⟩ else x
theorem trans_sp:WP lower_translations fun _=>True:=by
 unfold lower_translations
 simp [WP.chk_iff,WP.ret_iff,okI]
section
variable {n i par:Int} {f:AFunc} {y:ALayout} {J:Int→Prop} {x:AInstr}
theorem pickI {α:Type} {Q:α→Prop} (k:AInstr→M α) (hl:y.Off.length=f.Slots.length) (hz:0≤y.Size∧y.Size≤3000) (hpar:par≤3) (h:WfI n i par f.Slots J x) (hk:WP (k (lowI f y x)) Q):
 (x.Op=0∨x.Op=1∨x.Op=2∨x.Op=3∨x.Op=4∨x.Op=5∨x.Op=6∨x.Op=7∨x.Op=8∨x.Op=9∨x.Op=10∨x.Op=11∨x.Op=12∨x.Op=13∨x.Op=14∨x.Op=20∨x.Op=21∨x.Op=22∨x.Op=23∨x.Op=24)∧WP (M.call (lower_same f y x) k) Q∨x.Op=15∧WP (M.call (lower_translations_1 f y x) k) Q∨x.Op=16∧WP (M.call (lower_translations_2 f y x) k) Q∨x.Op=17∧WP (M.call (lower_translations_3 f y x) k) Q∨x.Op=18∧WP (M.call (lower_translations_4 f y x) k) Q∨x.Op=19∧WP (M.call (lower_translations_5 f y x) k) Q:=by
 have same:∀x:AInstr,lowI f y x=x→WP (k (lowI f y x)) Q→WP (M.call (lower_same f y x) k) Q:=fun x e h=>by
  rw [WP.call_iff]
  unfold lower_same
  rw [WP.ret_iff,←e]
  rw [e]
  rw [e] at h
  exact h
 cases h with
 | const a w h1 h2=>exact .inl ⟨by simp,same _ rfl hk⟩
 | copy o a b h1 h2 h3=>exact .inl ⟨by simp;omega,same _ (by rcases h1 with rfl| rfl<;>rfl) hk⟩
 | arith o a b c h1 h2 h3 h4 h5=>
   refine .inl ⟨by simp;omega,same _ ?_ hk⟩
   unfold lowI
   dsimp only
   rw [if_neg (show ¬o=15 by omega),if_neg (show ¬o=16 by omega),if_neg (show ¬o=17 by omega),if_neg (show ¬o=18 by omega),if_neg (show ¬o=19 by omega)]
 | io o a h1 h2=>exact .inl ⟨by simp;omega,same _ (by rcases h1 with rfl| rfl<;>rfl) hk⟩
 | load a s h1 h2=>
   obtain ⟨b1,b2⟩:=h2
   refine .inr (.inl ⟨rfl,?_⟩)
   unfold lower_translations_1
   rw [WP.call_iff]
   refine WP.chk ⟨by dsimp only;omega,by dsimp only;omega⟩ fun _=>?_
   refine WP.chk ⟨by dsimp only;omega,by dsimp only;omega⟩ fun _=>?_
   exact WP.ret hk
 | store s a h1 h2=>
   obtain ⟨b1,b2⟩:=h1
   refine .inr (.inr (.inl ⟨rfl,?_⟩))
   unfold lower_translations_2
   rw [WP.call_iff]
   refine WP.chk ⟨by dsimp only;omega,by dsimp only;omega⟩ fun _=>?_
   refine WP.chk ⟨by dsimp only;omega,by dsimp only;omega⟩ fun _=>?_
   exact WP.ret hk
 | move s t h1 h2 h3=>
   obtain ⟨b1,b2⟩:=h1
   obtain ⟨b3,b4⟩:=h2
   refine .inr (.inr (.inr (.inl ⟨rfl,?_⟩)))
   unfold lower_translations_3
   rw [WP.call_iff]
   refine WP.chk ⟨by dsimp only;omega,by dsimp only;omega⟩ fun _=>?_
   refine WP.chk ⟨by dsimp only;omega,by dsimp only;omega⟩ fun _=>?_
   refine WP.chk ⟨by dsimp only;omega,by dsimp only;omega⟩ fun _=>?_
   exact WP.ret hk
 | arg a r h1 h2=>
   obtain ⟨b1,b2⟩:=h1
   refine .inr (.inr (.inr (.inr (.inl ⟨rfl,?_⟩))))
   unfold lower_translations_4
   rw [WP.call_iff]
   refine WP.chk ⟨by dsimp only;omega,by dsimp only;omega⟩ fun _=>?_
   exact WP.ret hk
 | param a k h1 h2=>
   obtain ⟨b1,b2⟩:=h2
   refine .inr (.inr (.inr (.inr (.inr ⟨rfl,?_⟩))))
   unfold lower_translations_5
   rw [WP.call_iff]
   refine WP.chk ⟨by dsimp only;omega,by dsimp only;omega⟩ fun _=>?_
   refine WP.chk ⟨by dsimp only;omega,by dsimp only;omega⟩ fun _=>?_
   exact WP.ret hk
 | jump t h1=>exact .inl ⟨by simp,same _ rfl hk⟩
 | branch a t h1 h2=>exact .inl ⟨by simp,same _ rfl hk⟩
 | call g h1 h2=>exact .inl ⟨by simp,same _ rfl hk⟩
 | ret=>exact .inl ⟨by simp,same _ rfl hk⟩
 | trap w h1=>exact .inl ⟨by simp,same _ rfl hk⟩
theorem linstr_sp (hl:y.Off.length=f.Slots.length) (hz:0≤y.Size∧y.Size≤3000) (hpar:par≤3) (h:WfI n i par f.Slots J x):WP (lower_Instr f y x) (·=lowI f y x):=by
 unfold lower_Instr
 refine WP.call trans_sp fun _ _=>?_
 have hp:=pickI (Q:=(·=lowI f y x)) (fun z=>M.ret z) hl hz hpar h (WP.ret rfl)
 clear h
 generalize lowI f y x=z at*
 simp only [WP.bif_iff,WP.chk_iff,decide_eq_true_eq,decide_eq_false_iff_not]
 rcases hp with ⟨ho,hw⟩| ⟨ho,hw⟩| ⟨ho,hw⟩| ⟨ho,hw⟩| ⟨ho,hw⟩| ⟨ho,hw⟩
 ·rcases ho with ho| ho| ho| ho| ho| ho| ho| ho| ho| ho| ho| ho| ho| ho| ho| ho| ho| ho| ho| ho<;>(simp only [ho];simp;first| exact hw| exact WP.chk True.intro fun _=>hw)
 all_goals (simp only [ho];simp;exact hw)
end
theorem clone26_sp (l:List AInstr) (hl:l.length≤1000000):WP (slices_Clone___api_Instr_api_Instr_ l) (·=l):=by
 unfold slices_Clone___api_Instr_api_Instr_
 refine WP.both l (fun h=>?_) ?_ rfl
 ·exact WP.ret h.symm
 ·refine WP.chk (by simp only [List.length_nil];omega) fun _=>?_
  exact WP.ret rfl
def lowF (f:AFunc) (y:ALayout):AFrame:=⟨f.Params,y.Size,f.Code.map (lowI f y)⟩
section
variable {p:AProgram} {i al:Int} {y:ALayout}
theorem map_at {α β:Type} [Inhabited α] [Inhabited β] (g:α→β) {l:List α} {k:Int} (h:inN k l.length):atD (l.map g) k=g (atD l k):=by
 obtain ⟨h1,h2⟩:=h
 have h3:k.toNat<(l.map g).length:=by rw [List.length_map];omega
 have h4:=atD_nat h3
 rw [Int.toNat_of_nonneg h1] at h4
 have h5:=atD_nat (l:=l) (i:=k.toNat) (by omega)
 rw [Int.toNat_of_nonneg h1] at h5
 rw [h4,List.getElem_map,h5]
theorem lframe_sp (hp:WfP p) (hi:inN i p.Funcs.length) (h:ShapeP p i al y):WP (lower_Frame p i y) (·=lowF (atD p.Funcs i) y):=by
 have hf:=hp.func i hi.1 hi.2
 have hc:=hf.code
 have hpar:=hp.par _ (atD_mem hi)
 have hA:=argsN_R hp hi (l:=(atD p.Funcs i).Code) fun x hx=>hx
 obtain ⟨s1,s2,s3⟩:=h.sz
 have sa:=h.args
 unfold lower_Frame
 refine WP.chk hi fun _=>?_
 have hlen:=h.len
 generalize atD p.Funcs i=f at*
 refine WP.call (clone26_sp f.Code (by omega)) ?_
 intro z hz
 rw [hz]
 clear hz z
 refine WP.call trans_sp fun _ _=>?_
 refine WP.loop (fun j=>(0≤j.1∧j.1≤f.Code.length)∧j.2.length=f.Code.length∧(∀t,0≤t→t<j.1→atD j.2 t=lowI f y (atD f.Code t))∧∀t,j.1≤t→t<f.Code.length→atD j.2 t=atD f.Code t) (fun j=>f.Code.length- j.1.toNat) ⟨⟨by simp,by simp⟩,rfl,fun t h1 h2=>by exfalso;dsimp only at h2;omega,fun _ _ _=>rfl⟩ ?_
 rintro again ⟨k,l⟩ ⟨⟨a1,a2⟩,a3,a4,a5⟩ ih
 dsimp only at a1 a2 a3 a4 a5 ih ⊢
 refine WP.bif (fun wh=>?_) (fun wh=>?_)<;>(try simp only [wpH] at wh)
 ·have hkl:=wh
  refine WP.join (fun j=>j=setD l k (lowI f y (atD f.Code k))) ?_ ?_
  ·rintro _ rfl
   refine WP.chk ⟨by omega,by omega⟩ fun _=>?_
   refine ih _ ⟨⟨by dsimp only;omega,by dsimp only;omega⟩,by dsimp only;rw [length_setD,a3],fun t h1 h2=>?_,fun t h1 h2=>?_⟩ (by dsimp only;omega)
   ·dsimp only at h2 ⊢
    rw [atD_setD ⟨a1,by omega⟩ h1]
    split
    ·rename_i ht;rw [ht]
    ·exact a4 t h1 (by omega)
   ·dsimp only at h1 ⊢
    rw [atD_setD ⟨a1,by omega⟩ (by omega),if_neg (by omega)]
    exact a5 t (by omega) h2
  ·intro k1 hk1
   refine WP.chk ⟨a1,by omega⟩ fun _=>?_
   rw [a5 k (Int.le_refl _) hkl]
   have hW:=hf.at_ ⟨a1,hkl⟩
   generalize atD f.Code k=x at*
   have hp:=pickI (Q:=(·=lowF f y)) (fun z=>M.chk ((0:Int)≤k∧k<(l.length:Int))<| k1 (setD l k z)) hlen ⟨by omega,s2⟩ (by omega) hW (WP.chk ⟨a1,by omega⟩ fun _=>hk1 _ rfl)
   clear hW hk1 ih a4 a5
   simp only [WP.bif_iff,WP.chk_iff (p:=decide _=true),decide_eq_true_eq,decide_eq_false_iff_not]
   rcases hp with ⟨ho,hw⟩| ⟨ho,hw⟩| ⟨ho,hw⟩| ⟨ho,hw⟩| ⟨ho,hw⟩| ⟨ho,hw⟩
   ·rcases ho with ho| ho| ho| ho| ho| ho| ho| ho| ho| ho| ho| ho| ho| ho| ho| ho| ho| ho| ho| ho<;>(simp only [ho];simp;first| exact hw| exact WP.chk True.intro fun _=>hw)
   all_goals (simp only [ho];simp;exact hw)
 ·refine WP.ret ?_
  have e:l=f.Code.map (lowI f y):=atD_ext (by rw [List.length_map,a3]) fun t ht=>by
   obtain ⟨t1,t2⟩:=ht
   rw [a4 t t1 (by omega),map_at _ ⟨t1,by omega⟩]
  rw [e]
  rfl
end
theorem awake26_sp:WP law26_awake (·=true):=by
 unfold law26_awake
 refine WP.call (linstr_sp (n:=1) (i:=0) (par:=0) (J:=fun _=>True) rfl ⟨by simp,by simp⟩ (by simp) (.load 1 0 ⟨by simp,by simp⟩ ⟨by simp,by simp⟩)) ?_
 rintro _ rfl
 refine WP.bif (fun _=>WP.ret (by decide)) (fun wh=>by exfalso;revert wh;decide)
theorem WP.join_iff26 {α γ:Type} {K:γ→M α} {B:(γ→M α)→M α} {Q:α→Prop}:WP (M.join K B) Q↔WP (B K) Q:=
 ⟨fun ⟨r,h1,h2⟩=>⟨r,M.join_iff.1 h1,h2⟩,fun ⟨r,h1,h2⟩=>⟨r,M.join_iff.2 h1,h2⟩⟩
theorem within10_sp (k n:Int):WP (r10_within k n) (·=decide (0≤k∧k<n)):=by
 unfold r10_within
 refine WP.bif (fun wh=>?_) (fun wh=>?_)<;>(try simp only [wpH] at wh)
 ·exact WP.ret (by simp [wh])
 ·exact WP.ret (by simp;omega)
section
variable {p:AProgram} {i al:Int} {y:ALayout}
theorem placed_sp (hp:WfP p) (hi:inN i p.Funcs.length) (h:ShapeP p i al y) {k:Int} (hk:inN k (atD p.Funcs i).Slots.length):WP (layout_subject_placed ⟨p,i,al,atD p.Funcs i,y⟩ k) (·=true):=by
 have hsl:=hp.slotsR (atD_mem hi)
 have hA:=argsN_R hp hi (l:=(atD p.Funcs i).Code) fun x hx=>hx
 obtain ⟨o1,o2,o3⟩:=h.off k hk
 obtain ⟨s1,s2,s3⟩:=h.sz
 have sa:=h.args
 have sl:=h.len
 have hr:=hsl.2 _ (atD_mem hk)
 obtain ⟨hr1,hr2⟩:=hr
 obtain ⟨k1,k2⟩:=hk
 unfold layout_subject_placed
 dsimp only
 refine WP.chk ⟨k1,by omega⟩ fun _=>?_
 refine WP.bif (fun _=>?_) (fun wh=>by exfalso;rw [decide_eq_false_iff_not] at wh;omega)
 refine WP.chk ⟨k1,k2⟩ fun _=>?_
 refine WP.chk ⟨by omega,by omega⟩ fun _=>?_
 refine WP.bif (fun _=>?_) (fun wh=>by exfalso;rw [decide_eq_false_iff_not] at wh;exact wh o2)
 unfold layout_subject_interval
 dsimp only
 refine WP.call (R:=(·=⟨atD y.Off k,(atD (atD p.Funcs i).Slots k).Size⟩)) ?_ ?_
 ·refine WP.chk ⟨k1,by omega⟩ fun _=>?_
  exact WP.chk ⟨k1,k2⟩ fun _=>WP.ret rfl
 rintro _ rfl
 refine WP.call (inside_sp _ _ (by dsimp only;omega) (by dsimp only;omega) (by dsimp only;omega)) ?_
 rintro _ rfl
 exact WP.ret (by simp;omega)
theorem lshape_sp (hp:WfP p) (hi:inN i p.Funcs.length) (hal:al=alignP p) (h:ShapeP p i al y):WP (layout_Shape p i al y) (·=0):=by
 have hsl:=hp.slotsR (atD_mem hi)
 have hA:=argsN_R hp hi (l:=(atD p.Funcs i).Code) fun x hx=>hx
 obtain ⟨hp1,hp2,hp3⟩:=alP_pow hp (.inl hal)
 obtain ⟨s1,s2,s3⟩:=h.sz
 have sa:=h.args
 have st:=h.top
 obtain ⟨e1,e2,e3,e4⟩:=baseR_small (args:=16*argsN p (atD p.Funcs i).Code) (al:=al) (l:=(atD p.Funcs i).Slots) (by omega) (by omega) hsl.1 hsl.2 hp1 (by omega)
 unfold layout_Shape layout_subject_shape
 refine WP.chk hi fun _=>?_
 refine WP.call (R:=(·=0)) ?_ fun x hx=>WP.ret hx
 dsimp only
 refine WP.call (baseline_sp hi (args24_sp p i hp hi) (by omega) (by omega) (fun s hs=>(hsl.2 s hs).okS) (by omega) hp1) ?_
 intro x hx
 rw [hx,e1]
 clear hx x
 dsimp only
 refine WP.bif (fun wh=>by simp at wh) fun _=>?_
 refine WP.call (args24_sp p i hp hi) ?_
 rintro _ rfl
 refine WP.bif (fun wh=>by exfalso;rw [Bool.not_eq_true',decide_eq_false_iff_not] at wh;exact wh sa) fun _=>?_
 refine WP.bif (fun wh=>by exfalso;rw [Bool.not_eq_true',decide_eq_false_iff_not] at wh;exact wh (by rw [h.len])) fun _=>?_
 refine WP.loop (fun j=>0≤j∧j≤(atD p.Funcs i).Slots.length) (fun j=>(atD p.Funcs i).Slots.length- j.toNat) ⟨by omega,by omega⟩ ?_
 rintro again k ⟨a1,a2⟩ ih
 refine WP.bif (fun wh=>?_) (fun wh=>?_)<;>(try simp only [wpH] at wh)
 ·refine WP.call (placed_sp hp hi h ⟨a1,wh⟩) ?_
  rintro _ rfl
  refine WP.bif (fun wh=>by cases wh) fun _=>?_
  refine WP.chk ⟨by omega,by omega⟩ fun _=>?_
  exact ih _ ⟨by omega,by omega⟩ (by omega)
 ·refine WP.chk ⟨by omega,by omega⟩ fun _=>?_
  refine WP.bif (fun wh=>by exfalso;rw [Bool.not_eq_true',decide_eq_false_iff_not] at wh;exact wh s3) fun _=>?_
  refine WP.bif (fun wh=>by exfalso;rw [decide_eq_true_eq] at wh;omega) fun _=>?_
  exact WP.bif (fun wh=>by exfalso;rw [decide_eq_true_eq] at wh;omega) fun _=>WP.ret rfl
end
structure LowP (p:AProgram) (al:Int) (l:List ALayout) (t:ATarget):Prop where
 al:t.Align=al
 len:t.Frames.length=p.Funcs.length
 fr:∀i,inN i p.Funcs.length→atD t.Frames i=lowF (atD p.Funcs i) (atD l i)
section
variable {p:AProgram} {al:Int} {l:List ALayout}
theorem target_sp (hp:WfP p) (hal:al=alignP p) (hl:l.length=p.Funcs.length) (hS:∀i,inN i p.Funcs.length→ShapeP p i al (atD l i)):WP (lower_Target p al l) fun r=>r.2=0∧LowP p al l r.1:=by
 have hpl:=hp.len
 unfold lower_Target
 refine WP.bif (fun wh=>by exfalso;rw [Bool.not_eq_true',decide_eq_false_iff_not] at wh;omega) fun _=>?_
 refine WP.loop (fun j=>(0≤j.1∧j.1≤p.Funcs.length)∧(j.2.length:Int)=j.1∧∀t,0≤t→t<j.1→atD j.2 t=lowF (atD p.Funcs t) (atD l t)) (fun j=>p.Funcs.length- j.1.toNat) ⟨⟨by simp,by simp⟩,by simp,fun t h1 h2=>by exfalso;dsimp only at h2;omega⟩ ?_
 rintro again ⟨i,F⟩ ⟨⟨a1,a2⟩,a3,a4⟩ ih
 dsimp only at a1 a2 a3 a4 ih ⊢
 refine WP.bif (fun wh=>?_) (fun wh=>?_)<;>(try simp only [wpH] at wh)
 ·have hi:inN i p.Funcs.length:=⟨a1,by omega⟩
  refine WP.chk ⟨a1,wh⟩ fun _=>?_
  refine WP.call (lshape_sp hp hi hal (hS i hi)) ?_
  rintro _ rfl
  refine WP.bif (fun wh=>by simp at wh) fun _=>?_
  refine WP.call (lframe_sp hp hi (hS i hi)) ?_
  rintro _ rfl
  refine WP.chk (by simp only [List.length_singleton];omega) fun _=>?_
  refine WP.chk ⟨by omega,by omega⟩ fun _=>?_
  refine ih _ ⟨⟨by dsimp only;omega,by dsimp only;omega⟩,by simp only [List.length_append,List.length_singleton];omega,fun t q1 q2=>?_⟩ (by dsimp only;omega)
  dsimp only at q2 ⊢
  by_cases ht:t=i
  ·rw [ht,atD_last (by omega)]
  ·rw [atD_append_left (by omega)];exact a4 t q1 (by omega)
 ·exact WP.ret ⟨rfl,rfl,by dsimp only;omega,fun i hi=>a4 i hi.1 (by have:=hi.2;omega)⟩
end
theorem jump_in26 {n i par:Int} {f:AFunc} (hf:WfF n i par f) {k:Int} (hk:inN k f.Code.length):((atD f.Code k).Op=20→inN (atD f.Code k).A f.Code.length)∧((atD f.Code k).Op=21→inN (atD f.Code k).B f.Code.length):=by
 have hI:=hf.at_ hk
 generalize atD f.Code k=x at*
 constructor
 ·intro h
  cases hI<;>first| assumption| (simp at h;done)| (exfalso;dsimp only at h;omega)
 ·intro h
  cases hI<;>first| assumption| (simp at h;done)| (exfalso;dsimp only at h;omega)
def formB10 (x:AInstr) (q:Bool × Bool × Bool × Bool):Prop:=(q.1=false→x.A=0)∧(q.2.1=false→x.B=0)∧(q.2.2.1=false→x.C=0)∧(q.2.2.2=false→x.Imm=0)
structure InsP (t:ATarget) (f:AFrame) (z:AInstr):Prop where
 op:0≤z.Op∧z.Op<25∧z.Op≠18∧z.Op≠19
 form:WP (r10_Operands z.Op) (formB10 z)
 named:WP (r10_named t z) (·=true)
 size:z.Op=15∨z.Op=16∨z.Op=17→sizeB z.C=true
 rd:z.Op=15∨z.Op=17→0≤z.B∧0≤z.C∧z.B+z.C≤f.Size+16*f.Params
 wr:z.Op=16∨z.Op=17→0≤z.A∧0≤z.C∧z.A+z.C≤f.Size
 j1:z.Op=20→inN z.A f.Code.length
 j2:z.Op=21→inN z.B f.Code.length
 call:z.Op=22→inN z.A t.Frames.length∧16*(atD t.Frames z.A).Params≤f.Size
section
variable {p:AProgram} {i al:Int} {l:List ALayout} {t:ATarget}
theorem ins_ok (hp:WfP p) (hi:inN i p.Funcs.length) (h:ShapeP p i al (atD l i)) (hL:LowP p al l t) {k:Int} (hk:inN k (atD p.Funcs i).Code.length):InsP t (atD t.Frames i) (lowI (atD p.Funcs i) (atD l i) (atD (atD p.Funcs i).Code k)):=by
 have hf:=hp.func i hi.1 hi.2
 have hI:=hf.at_ hk
 obtain ⟨jj1,jj2⟩:=jump_in26 hf hk
 have hpar:=hp.par _ (atD_mem hi)
 have hA:=argsN_R hp hi (l:=(atD p.Funcs i).Code) fun x hx=>hx
 have hneed:=hA.2.2.1 _ (atD_mem hk)
 have hcall:(atD (atD p.Funcs i).Code k).Op=22→(atD t.Frames (atD (atD p.Funcs i).Code k).A).Params=(atD p.Funcs (atD (atD p.Funcs i).Code k).A).Params:=fun h22=>by
  have:=(hI.need hp hi.1).2.2.2 h22
  rw [hL.fr _ ⟨by have:=hi.1;omega,this.2⟩]
  rfl
 have hfr:=hL.fr i hi
 have hlen:=hL.len
 rw [hfr]
 have hcl:(lowF (atD p.Funcs i) (atD l i)).Code.length=(atD p.Funcs i).Code.length:=List.length_map ..
 obtain ⟨s1,s2,s3⟩:=h.sz
 have sa:=h.args
 have soff:=h.off
 have hrs:=hf.rightS
 have hps:(lowF (atD p.Funcs i) (atD l i)).Size=(atD l i).Size:=rfl
 have hpp:(lowF (atD p.Funcs i) (atD l i)).Params=(atD p.Funcs i).Params:=rfl
 have hsz:∀s,inN s (atD p.Funcs i).Slots.length→sizeB (atD (atD p.Funcs i).Slots s).Size=true∧0≤(atD (atD p.Funcs i).Slots s).Size∧0≤atD (atD l i).Off s∧atD (atD l i).Off s+(atD (atD p.Funcs i).Slots s).Size≤(atD l i).Size:=fun s hs=>by
  have h1:=(hrs _ (atD_mem hs)).1
  obtain ⟨o1,o2,o3⟩:=soff s hs
  exact ⟨by simp [sizeB,h1],by omega,by omega,o3⟩
 have hi0:=hi.1
 clear hfr hL hrs soff
 generalize atD p.Funcs i=f at*
 generalize atD l i=y at*
 generalize atD f.Code k=x at*
 generalize lowF f y=g at*
 cases hI with
 | const a w h1 h2=>obtain ⟨b1,b2⟩:=h1;exact ⟨by simp [lowI],by simp [lowI,r10_Operands,r10_memory,r05_Operands,formB10,WP.join_iff26,WP.bif_iff,WP.ret_iff,WP.call_iff],by simp [lowI,r10_named,r10_within,WP.join_iff26,WP.bif_iff,WP.ret_iff,WP.call_iff];omega,by simp [lowI],by simp [lowI],by simp [lowI],by simp [lowI],by simp [lowI],by simp [lowI]⟩
 | copy o a b h1 h2 h3=>obtain ⟨b1,b2⟩:=h2;obtain ⟨b3,b4⟩:=h3;rcases h1 with rfl| rfl<;>exact ⟨by simp [lowI],by simp [lowI,r10_Operands,r10_memory,r05_Operands,formB10,WP.join_iff26,WP.bif_iff,WP.ret_iff,WP.call_iff],by simp [lowI,r10_named,r10_within,WP.join_iff26,WP.bif_iff,WP.ret_iff,WP.call_iff];omega,by simp [lowI],by simp [lowI],by simp [lowI],by simp [lowI],by simp [lowI],by simp [lowI]⟩
 | arith o a b c h1 h2 h3 h4 h5=>
   obtain ⟨b1,b2⟩:=h3;obtain ⟨b3,b4⟩:=h4;obtain ⟨b5,b6⟩:=h5
   have:o=2∨o=3∨o=4∨o=5∨o=6∨o=7∨o=8∨o=9∨o=10∨o=11:=by omega
   rcases this with rfl| rfl| rfl| rfl| rfl| rfl| rfl| rfl| rfl| rfl<;>exact ⟨by simp [lowI],by simp [lowI,r10_Operands,r10_memory,r05_Operands,formB10,WP.join_iff26,WP.bif_iff,WP.ret_iff,WP.call_iff],by simp [lowI,r10_named,r10_within,WP.join_iff26,WP.bif_iff,WP.ret_iff,WP.call_iff];omega,by simp [lowI],by simp [lowI],by simp [lowI],by simp [lowI],by simp [lowI],by simp [lowI]⟩
 | io o a h1 h2=>obtain ⟨b1,b2⟩:=h2;rcases h1 with rfl| rfl<;>exact ⟨by simp [lowI],by simp [lowI,r10_Operands,r10_memory,r05_Operands,formB10,WP.join_iff26,WP.bif_iff,WP.ret_iff,WP.call_iff],by simp [lowI,r10_named,r10_within,WP.join_iff26,WP.bif_iff,WP.ret_iff,WP.call_iff];omega,by simp [lowI],by simp [lowI],by simp [lowI],by simp [lowI],by simp [lowI],by simp [lowI]⟩
 | load a s h1 h2=>
   obtain ⟨b1,b2⟩:=h1
   obtain ⟨z1,z2,z3,z4⟩:=hsz s h2
   exact ⟨by simp [lowI],by simp [lowI,r10_Operands,r10_memory,formB10,WP.bif_iff,WP.ret_iff,WP.call_iff],by simp [lowI,r10_named,r10_within,WP.join_iff26,WP.bif_iff,WP.ret_iff,WP.call_iff];omega,fun _=>z1,fun _=>⟨z3,z2,by simp [lowI];omega⟩,by simp [lowI],by simp [lowI],by simp [lowI],by simp [lowI]⟩
 | store s a h1 h2=>
   obtain ⟨b1,b2⟩:=h2
   obtain ⟨z1,z2,z3,z4⟩:=hsz s h1
   exact ⟨by simp [lowI],by simp [lowI,r10_Operands,r10_memory,formB10,WP.bif_iff,WP.ret_iff,WP.call_iff],by simp [lowI,r10_named,r10_within,WP.join_iff26,WP.bif_iff,WP.ret_iff,WP.call_iff];omega,fun _=>z1,by simp [lowI],fun _=>⟨z3,z2,by simp [lowI];omega⟩,by simp [lowI],by simp [lowI],by simp [lowI]⟩
 | move s u h1 h2 h3=>
   obtain ⟨z1,z2,z3,z4⟩:=hsz s h1
   obtain ⟨w1,w2,w3,w4⟩:=hsz u h2
   exact ⟨by simp [lowI],by simp [lowI,r10_Operands,r10_memory,formB10,WP.bif_iff,WP.ret_iff,WP.call_iff],by simp [lowI,r10_named,r10_within,WP.join_iff26,WP.bif_iff,WP.ret_iff,WP.call_iff],fun _=>z1,fun _=>⟨w3,z2,by simp [lowI];omega⟩,fun _=>⟨z3,z2,by simp [lowI];omega⟩,by simp [lowI],by simp [lowI],by simp [lowI]⟩
 | arg a r h1 h2=>
   obtain ⟨b1,b2⟩:=h1
   obtain ⟨b3,b4⟩:=h2
   simp [needA] at hneed
   exact ⟨by simp [lowI],by simp [lowI,r10_Operands,r10_memory,formB10,WP.bif_iff,WP.ret_iff,WP.call_iff],by simp [lowI,r10_named,r10_within,WP.join_iff26,WP.bif_iff,WP.ret_iff,WP.call_iff];omega,fun _=>by simp [lowI,sizeB],by simp [lowI],fun _=>⟨by simp [lowI];omega,by simp [lowI],by simp [lowI];omega⟩,by simp [lowI],by simp [lowI],by simp [lowI]⟩
 | param a q h1 h2=>
   obtain ⟨b1,b2⟩:=h1
   obtain ⟨b3,b4⟩:=h2
   exact ⟨by simp [lowI],by simp [lowI,r10_Operands,r10_memory,formB10,WP.bif_iff,WP.ret_iff,WP.call_iff],by simp [lowI,r10_named,r10_within,WP.join_iff26,WP.bif_iff,WP.ret_iff,WP.call_iff];omega,fun _=>by simp [lowI,sizeB],fun _=>⟨by simp [lowI];omega,by simp [lowI],by simp [lowI];omega⟩,by simp [lowI],by simp [lowI],by simp [lowI],by simp [lowI]⟩
 | jump u h1=>
   have q:=jj1 rfl
   exact ⟨by simp [lowI],by simp [lowI,r10_Operands,r10_memory,r05_Operands,formB10,WP.join_iff26,WP.bif_iff,WP.ret_iff,WP.call_iff],by simp [lowI,r10_named,r10_within,WP.join_iff26,WP.bif_iff,WP.ret_iff,WP.call_iff],by simp [lowI],by simp [lowI],by simp [lowI],fun _=>by rw [hcl];exact q,by simp [lowI],by simp [lowI]⟩
 | branch a u h1 h2=>
   have q:=jj2 rfl
   obtain ⟨b1,b2⟩:=h1
   exact ⟨by simp [lowI],by simp [lowI,r10_Operands,r10_memory,r05_Operands,formB10,WP.join_iff26,WP.bif_iff,WP.ret_iff,WP.call_iff],by simp [lowI,r10_named,r10_within,WP.join_iff26,WP.bif_iff,WP.ret_iff,WP.call_iff];omega,by simp [lowI],by simp [lowI],by simp [lowI],by simp [lowI],fun _=>by rw [hcl];exact q,by simp [lowI]⟩
 | call u h1 h2=>
   have q:=hcall rfl
   simp [needA] at hneed
   dsimp only at q
   exact ⟨by simp [lowI],by simp [lowI,r10_Operands,r10_memory,r05_Operands,formB10,WP.join_iff26,WP.bif_iff,WP.ret_iff,WP.call_iff],by simp [lowI,r10_named,r10_within,WP.join_iff26,WP.bif_iff,WP.ret_iff,WP.call_iff];omega,by simp [lowI],by simp [lowI],by simp [lowI],by simp [lowI],by simp [lowI],fun _=>⟨⟨by simp [lowI];omega,by simp [lowI];omega⟩,by show 16*(atD t.Frames u).Params≤_;rw [q];omega⟩⟩
 | ret=>exact ⟨by simp [lowI],by simp [lowI,r10_Operands,r10_memory,r05_Operands,formB10,WP.join_iff26,WP.bif_iff,WP.ret_iff,WP.call_iff],by simp [lowI,r10_named,r10_within,WP.join_iff26,WP.bif_iff,WP.ret_iff,WP.call_iff],by simp [lowI],by simp [lowI],by simp [lowI],by simp [lowI],by simp [lowI],by simp [lowI]⟩
 | trap w h1=>exact ⟨by simp [lowI],by simp [lowI,r10_Operands,r10_memory,r05_Operands,formB10,WP.join_iff26,WP.bif_iff,WP.ret_iff,WP.call_iff],by simp [lowI,r10_named,r10_within,WP.join_iff26,WP.bif_iff,WP.ret_iff,WP.call_iff],by simp [lowI],by simp [lowI],by simp [lowI],by simp [lowI],by simp [lowI],by simp [lowI]⟩
end
theorem memory10_sp (o:Int):WP (r10_memory o) (·=decide (o=15∨o=16∨o=17)):=by
 unfold r10_memory
 refine WP.bif (fun wh=>?_) (fun wh=>?_)<;>(try simp only [wpH] at wh)
 ·exact WP.ret (by simp [wh])
 ·have h:=wh
  refine WP.bif (fun wh=>?_) (fun wh=>?_)<;>(try simp only [wpH] at wh)
  ·exact WP.ret (by simp [wh])
  ·exact WP.ret (by simp [h,wh])
structure FrP (t:ATarget) (f:AFrame):Prop where
 par:0≤f.Params∧f.Params≤3
 sz:0≤f.Size∧f.Size≤3000∧f.Size % t.Align=0
 len:1≤f.Code.length∧f.Code.length≤800
 last:(atD f.Code ((f.Code.length:Int)- 1)).Op=23∨(atD f.Code ((f.Code.length:Int)- 1)).Op=24
 ins:∀k,inN k f.Code.length→InsP t f (atD f.Code k)
structure TgtP (t:ATarget):Prop where
 al:powB t.Align=true∧16≤t.Align
 len:1≤t.Frames.length∧t.Frames.length≤80
 entry:(atD t.Frames 0).Params=0
 fr:∀i,inN i t.Frames.length→FrP t (atD t.Frames i)
section
variable {t:ATarget}
theorem shape10_sp (ht:TgtP t) {i:Int} (hi:inN i t.Frames.length):WP (r10_shape t (atD t.Frames i)) (·=true):=by
 have hF:=ht.fr i hi
 obtain ⟨p1,p2⟩:=hF.par
 obtain ⟨z1,z2,z3⟩:=hF.sz
 have ha:=ht.al.2
 unfold r10_shape
 refine WP.call (power_sp _) ?_
 rintro _ rfl
 refine WP.bif (fun _=>?_) (fun wh=>by rw [ht.al.1] at wh;cases wh)
 refine WP.bif (fun _=>?_) (fun wh=>by exfalso;rw [decide_eq_false_iff_not] at wh;omega)
 refine WP.bif (fun _=>?_) (fun wh=>by exfalso;rw [decide_eq_false_iff_not] at wh;omega)
 refine WP.bif (fun _=>?_) (fun wh=>by exfalso;rw [decide_eq_false_iff_not] at wh;omega)
 refine WP.bif (fun _=>?_) (fun wh=>by exfalso;rw [decide_eq_false_iff_not] at wh;omega)
 refine WP.chk ⟨by omega,by omega⟩ fun _=>?_
 refine WP.ret ?_
 first| exact decide_eq_true z3| (rw [Int.tmod_eq_emod_of_nonneg (by omega)];exact decide_eq_true z3)
theorem checkInstr10_sp (ht:TgtP t) {i k:Int} (hi:inN i t.Frames.length) (hk:inN k (atD t.Frames i).Code.length):WP (r10_CheckInstr t i k) (·=0):=by
 have hF:=ht.fr i hi
 have hI:=hF.ins k hk
 obtain ⟨pp1,pp2⟩:=hF.par
 obtain ⟨z1,z2,z3⟩:=hF.sz
 have hsh:=shape10_sp ht hi
 unfold r10_CheckInstr
 refine WP.call (within10_sp _ _) ?_
 rintro _ rfl
 refine WP.bif (fun wh=>by exfalso;obtain ⟨q1,q2⟩:=hi;simp at wh;omega) fun _=>?_
 refine WP.chk hi fun _=>?_
 refine WP.call (within10_sp _ _) ?_
 rintro _ rfl
 refine WP.bif (fun wh=>by exfalso;obtain ⟨q1,q2⟩:=hk;simp at wh;omega) fun _=>?_
 refine WP.chk hi fun _=>?_
 refine WP.call hsh ?_
 rintro _ rfl
 refine WP.bif (fun wh=>by cases wh) fun _=>?_
 refine WP.chk hi fun _=>?_
 refine WP.chk hk fun _=>?_
 clear hsh hF
 generalize atD t.Frames i=f at*
 generalize atD f.Code k=x at*
 obtain ⟨o1,o2,o3,o4⟩:=hI.op
 refine WP.call (within10_sp _ _) ?_
 rintro _ rfl
 refine WP.bif (fun wh=>by exfalso;simp at wh;omega) fun _=>?_
 refine WP.bif (fun wh=>by exfalso;rw [decide_eq_true_eq] at wh;exact o3 wh) fun _=>?_
 refine WP.bif (fun wh=>by exfalso;rw [decide_eq_true_eq] at wh;exact o4 wh) fun _=>?_
 refine WP.call hI.form fun q ⟨e1,e2,e3,e4⟩=>?_
 refine WP.join (fun b=>b=false) ?_ ?_
 ·rintro _ rfl
  refine WP.bif (fun wh=>by cases wh) fun _=>?_
  refine WP.call hI.named ?_
  rintro _ rfl
  refine WP.bif (fun wh=>by cases wh) fun _=>?_
  refine WP.join (fun _=>True) ?_ ?_
  ·intro _ _
   refine WP.join (fun _=>True) ?_ ?_
   ·intro _ _
    refine WP.join (fun _=>True) ?_ ?_
    ·intro _ _
     refine WP.bif (fun wh=>?_) (fun wh=>?_)<;>(try simp only [wpH] at wh)
     ·obtain ⟨q1,q2⟩:=hI.j1 wh
      refine WP.call (within10_sp _ _) ?_
      rintro _ rfl
      refine WP.bif (fun wh=>by exfalso;simp at wh;omega) fun _=>?_
      exact WP.bif (fun wh=>by exfalso;simp at wh;omega) fun _=>WP.ret rfl
     ·refine WP.bif (fun wh=>?_) (fun _=>WP.ret rfl)<;>(try simp only [wpH] at wh)
      obtain ⟨q1,q2⟩:=hI.j2 wh
      refine WP.call (within10_sp _ _) ?_
      rintro _ rfl
      exact WP.bif (fun wh=>by exfalso;simp at wh;omega) fun _=>WP.ret rfl
    ·intro k5 hk5
     unfold r10_Writes
     refine WP.call (R:=fun r=>r.2=false∨r=(⟨x.A,x.C⟩,true)∧(x.Op=16∨x.Op=17)) ?_ ?_
     ·refine WP.bif (fun wh=>?_) (fun wh=>?_)<;>(try simp only [wpH] at wh)
      ·exact WP.ret (.inr ⟨rfl,.inl wh⟩)
      ·refine WP.bif (fun wh=>?_) (fun wh=>?_)<;>(try simp only [wpH] at wh)
       ·exact WP.ret (.inr ⟨rfl,.inr wh⟩)
       ·exact WP.ret (.inl rfl)
     ·rintro r (hr| ⟨hr,ho⟩)
      ·rw [hr]
       exact WP.bif (fun wh=>by cases wh) fun _=>hk5 _ trivial
      ·rw [hr]
       obtain ⟨w1,w2,w3⟩:=hI.wr ho
       refine WP.bif (fun _=>?_) fun wh=>by cases wh
       refine WP.call (rinside_sp _ _ (by dsimp only;omega) (by dsimp only;omega) (by dsimp only;omega)) ?_
       rintro _ rfl
       exact WP.bif (fun wh=>by exfalso;simp at wh;omega) fun _=>hk5 _ trivial
   ·intro k4 hk4
    unfold r10_Reads
    refine WP.call (R:=fun r=>r.2=false∨r=(⟨x.B,x.C⟩,true)∧(x.Op=15∨x.Op=17)) ?_ ?_
    ·refine WP.bif (fun wh=>?_) (fun wh=>?_)<;>(try simp only [wpH] at wh)
     ·exact WP.ret (.inr ⟨rfl,.inl wh⟩)
     ·refine WP.bif (fun wh=>?_) (fun wh=>?_)<;>(try simp only [wpH] at wh)
      ·exact WP.ret (.inr ⟨rfl,.inr wh⟩)
      ·exact WP.ret (.inl rfl)
    ·rintro r (hr| ⟨hr,ho⟩)
     ·rw [hr]
      exact WP.bif (fun wh=>by cases wh) fun _=>hk4 _ trivial
     ·rw [hr]
      obtain ⟨w1,w2,w3⟩:=hI.rd ho
      refine WP.bif (fun _=>?_) fun wh=>by cases wh
      refine WP.chk ⟨by omega,by omega⟩ fun _=>?_
      refine WP.chk ⟨by omega,by omega⟩ fun _=>?_
      refine WP.call (rinside_sp _ _ (by dsimp only;omega) (by dsimp only;omega) (by dsimp only;omega)) ?_
      rintro _ rfl
      exact WP.bif (fun wh=>by exfalso;simp at wh;omega) fun _=>hk4 _ trivial
  ·intro k3 hk3
   refine WP.call (memory10_sp _) ?_
   rintro _ rfl
   refine WP.bif (fun wh=>?_) (fun _=>hk3 _ trivial)
   rw [decide_eq_true_eq] at wh
   refine WP.call (size_sp _) ?_
   rintro _ rfl
   exact WP.bif (fun wh2=>by rw [hI.size wh] at wh2;cases wh2) fun _=>hk3 _ trivial
 ·intro k2 hk2
  obtain ⟨qa,qb,qc,qd⟩:=q
  dsimp only at e1 e2 e3 e4 ⊢
  have hf:=hk2 _ rfl
  cases qa<;>cases qb<;>cases qc<;>cases qd<;>simp_all [WP.bif_iff]
theorem terminator10_sp (o:Int) (h:o=23∨o=24):WP (r05_Terminator o) (·=true):=by
 unfold r05_Terminator
 rcases h with rfl| rfl<;>simp [WP.bif_iff,WP.ret_iff]
theorem checkFrame10_sp (ht:TgtP t) {i:Int} (hi:inN i t.Frames.length):WP (r10_CheckFrame t i) (·=0):=by
 have hF:=ht.fr i hi
 have hc:=hF.len
 have hci:=fun k hk=>checkInstr10_sp ht hi (k:=k) hk
 have hsh:=shape10_sp ht hi
 unfold r10_CheckFrame
 refine WP.call (within10_sp _ _) ?_
 rintro _ rfl
 refine WP.bif (fun wh=>by exfalso;obtain ⟨q1,q2⟩:=hi;simp at wh;omega) fun _=>?_
 refine WP.chk hi fun _=>?_
 refine WP.call hsh ?_
 rintro _ rfl
 refine WP.bif (fun wh=>by cases wh) fun _=>?_
 refine WP.chk hi fun _=>?_
 have hlast:=hF.last
 clear hF hsh
 generalize atD t.Frames i=f at*
 refine WP.bif (fun wh=>by exfalso;rw [decide_eq_true_eq] at wh;omega) fun _=>?_
 refine WP.loop (fun j=>0≤j∧j≤f.Code.length) (fun j=>f.Code.length- j.toNat) ⟨by omega,by omega⟩ ?_
 rintro again k ⟨a1,a2⟩ ih
 refine WP.bif (fun wh=>?_) (fun wh=>?_)<;>(try simp only [wpH] at wh)
 ·refine WP.call (hci k ⟨a1,wh⟩) ?_
  rintro _ rfl
  refine WP.bif (fun wh=>by simp at wh) fun _=>?_
  refine WP.chk ⟨by omega,by omega⟩ fun _=>?_
  exact ih _ ⟨by omega,by omega⟩ (by omega)
 ·refine WP.bif (fun wh=>by exfalso;rw [decide_eq_true_eq] at wh;omega) fun _=>?_
  refine WP.chk ⟨by omega,by omega⟩ fun _=>?_
  refine WP.chk ⟨by omega,by omega⟩ fun _=>?_
  refine WP.call (terminator10_sp _ hlast) ?_
  rintro _ rfl
  exact WP.bif (fun wh=>by cases wh) fun _=>WP.ret rfl
theorem calls10_sp (ht:TgtP t) {i:Int} (hi:inN i t.Frames.length):WP (r10_calls t (atD t.Frames i)) (·=true):=by
 have hF:=ht.fr i hi
 have hc:=hF.len
 have hins:=hF.ins
 have hz:=hF.sz
 clear hF
 generalize atD t.Frames i=f at*
 unfold r10_calls
 refine WP.loop (fun j=>0≤j∧j≤f.Code.length) (fun j=>f.Code.length- j.toNat) ⟨by omega,by omega⟩ ?_
 rintro again k ⟨a1,a2⟩ ih
 refine WP.bif (fun wh=>?_) (fun _=>WP.ret rfl)<;>(try simp only [wpH] at wh)
 have hkl:=wh
 have hgo:WP (M.chk (okI (k+1)) (again (k+1))) (·=true):=WP.chk ⟨by omega,by omega⟩ fun _=>ih _ ⟨by omega,by omega⟩ (by omega)
 refine WP.chk ⟨a1,hkl⟩ fun _=>?_
 refine WP.bif (fun wh=>?_) (fun _=>hgo)<;>(try simp only [wpH] at wh)
 obtain ⟨q1,q2⟩:=(hins k ⟨a1,hkl⟩).call wh
 have hq:=(ht.fr _ q1).par
 refine WP.chk ⟨a1,hkl⟩ fun _=>?_
 refine WP.chk q1 fun _=>?_
 refine WP.chk ⟨by omega,by omega⟩ fun _=>?_
 exact WP.bif (fun wh=>by exfalso;rw [decide_eq_true_eq] at wh;omega) fun _=>hgo
theorem check10_sp (ht:TgtP t):WP (r10_Check t) (·=0):=by
 have hl:=ht.len
 have he:=ht.entry
 have ha:=ht.al
 unfold r10_Check
 refine WP.bif (fun wh=>by exfalso;rw [decide_eq_true_eq] at wh;omega) fun _=>?_
 refine WP.bif (fun wh=>by exfalso;rw [decide_eq_true_eq] at wh;omega) fun _=>?_
 refine WP.call (power_sp _) ?_
 rintro _ rfl
 refine WP.bif (fun wh=>by rw [ha.1] at wh;cases wh) fun _=>?_
 refine WP.bif (fun wh=>by exfalso;rw [decide_eq_true_eq] at wh;omega) fun _=>?_
 refine WP.chk ⟨by omega,by omega⟩ fun _=>?_
 refine WP.bif (fun wh=>by exfalso;rw [Bool.not_eq_true',decide_eq_false_iff_not] at wh;exact wh he) fun _=>?_
 refine WP.loop (fun j=>0≤j∧j≤t.Frames.length) (fun j=>t.Frames.length- j.toNat) ⟨by omega,by omega⟩ ?_
 rintro again k ⟨a1,a2⟩ ih
 refine WP.bif (fun wh=>?_) (fun wh=>?_)<;>(try simp only [wpH] at wh)
 ·refine WP.call (checkFrame10_sp ht ⟨a1,wh⟩) ?_
  rintro _ rfl
  refine WP.bif (fun wh=>by simp at wh) fun _=>?_
  refine WP.chk ⟨by omega,by omega⟩ fun _=>?_
  exact ih _ ⟨by omega,by omega⟩ (by omega)
 ·refine WP.loop (fun j=>0≤j∧j≤t.Frames.length) (fun j=>t.Frames.length- j.toNat) ⟨by omega,by omega⟩ ?_
  rintro again2 k2 ⟨b1,b2⟩ ih2
  refine WP.bif (fun wh=>?_) (fun _=>WP.ret rfl)<;>(try simp only [wpH] at wh)
  refine WP.chk ⟨b1,wh⟩ fun _=>?_
  refine WP.call (calls10_sp ht ⟨b1,wh⟩) ?_
  rintro _ rfl
  refine WP.bif (fun wh=>by cases wh) fun _=>?_
  refine WP.chk ⟨by omega,by omega⟩ fun _=>?_
  exact ih2 _ ⟨by omega,by omega⟩ (by omega)
end
theorem low_tgt {p:AProgram} {al:Int} {l:List ALayout} {t:ATarget} (hp:WfP p) (hal:al=alignP p) (hS:∀i,inN i p.Funcs.length→ShapeP p i al (atD l i)) (hL:LowP p al l t):TgtP t:=by
 have hpl:=hp.len
 have hll:=hL.len
 obtain ⟨hp1,hp2,hp3⟩:=alP_pow hp (.inl hal)
 have hR:=(alignP_R hp).1
 unfold alR at hR
 refine ⟨⟨by rw [hL.al];exact hp1,by rw [hL.al,hal];omega⟩,by omega,?_,fun i hi=>?_⟩
 ·rw [hL.fr 0 ⟨by omega,by omega⟩]
  exact hp.entry
 ·rw [hll] at hi
  have hf:=hp.func i hi.1 hi.2
  have hc:=hf.code
  have hpar:=hp.par _ (atD_mem hi)
  have hsh:=hS i hi
  have hA:=argsN_R hp hi (l:=(atD p.Funcs i).Code) fun x hx=>hx
  obtain ⟨s1,s2,s3⟩:=hsh.sz
  have sa:=hsh.args
  have hins:=fun k hk=>ins_ok hp hi hsh hL (k:=k) hk
  have hcl:(lowF (atD p.Funcs i) (atD l i)).Code.length=(atD p.Funcs i).Code.length:=List.length_map ..
  have hat:∀k,inN k (atD p.Funcs i).Code.length→atD (lowF (atD p.Funcs i) (atD l i)).Code k=lowI (atD p.Funcs i) (atD l i) (atD (atD p.Funcs i).Code k):=fun k hk=>map_at _ hk
  rw [hL.fr i hi] at hins ⊢
  refine ⟨hpar,⟨by show 0≤(atD l i).Size;omega,s2,by rw [hL.al];exact s3⟩,by omega,?_,fun k hk=>?_⟩
  ·rw [hcl,hat _ ⟨by omega,by omega⟩]
   have hlo:∀x:AInstr,x.Op=23∨x.Op=24→lowI (atD p.Funcs i) (atD l i) x=x:=fun x hx=>by
    unfold lowI
    rw [if_neg (by omega),if_neg (by omega),if_neg (by omega),if_neg (by omega),if_neg (by omega)]
   rw [hlo _ hf.last]
   exact hf.last
  ·rw [hcl] at hk
   rw [hat k hk]
   exact hins k hk
theorem WP.join_iff {α γ:Type} {K:γ→M α} {B:(γ→M α)→M α} {Q:α→Prop}:WP (M.join K B) Q↔WP (B K) Q:=
 ⟨fun ⟨r,h1,h2⟩=>⟨r,M.join_iff.1 h1,h2⟩,fun ⟨r,h1,h2⟩=>⟨r,M.join_iff.2 h1,h2⟩⟩
theorem within5_sp (k n:Int):WP (r05_within k n) (·=decide (0≤k∧k<n)):=by
 unfold r05_within
 refine WP.bif (fun wh=>?_) (fun wh=>?_)<;>(try simp only [wpH] at wh)
 ·exact WP.ret (by simp [wh])
 ·exact WP.ret (by simp;omega)
theorem operands_sp {n i par:Int} {J:Int→Prop} {p:AProgram} {f:AFunc} {x:AInstr} (hn:n=p.Funcs.length) (hpar:par=f.Params) (hi:0≤i) (h:WfI n i par f.Slots J x):WP (r05_operands p f x) (·=true):=by
 subst hn hpar
 cases h with
 | const a w h1 h2=>obtain ⟨a1,a2⟩:=h1;simp [r05_operands,r05_register,r05_within,WP.join_iff,WP.bif_iff,WP.chk_iff,WP.call_iff,WP.ret_iff];omega
 | copy o a b h1 h2 h3=>obtain ⟨a1,a2⟩:=h2;obtain ⟨b1,b2⟩:=h3;rcases h1 with rfl| rfl<;>(simp [r05_operands,r05_register,r05_within,WP.join_iff,WP.bif_iff,WP.chk_iff,WP.call_iff,WP.ret_iff];omega)
 | arith o a b c h1 h2 h3 h4 h5=>
   obtain ⟨a1,a2⟩:=h3;obtain ⟨b1,b2⟩:=h4;obtain ⟨c1,c2⟩:=h5
   have:o=2∨o=3∨o=4∨o=5∨o=6∨o=7∨o=8∨o=9∨o=10∨o=11:=by omega
   rcases this with rfl| rfl| rfl| rfl| rfl| rfl| rfl| rfl| rfl| rfl<;>(simp [r05_operands,r05_register,r05_within,WP.join_iff,WP.bif_iff,WP.chk_iff,WP.call_iff,WP.ret_iff];omega)
 | io o a h1 h2=>obtain ⟨a1,a2⟩:=h2;rcases h1 with rfl| rfl<;>(simp [r05_operands,r05_register,r05_within,WP.join_iff,WP.bif_iff,WP.chk_iff,WP.call_iff,WP.ret_iff];omega)
 | load a s h1 h2=>obtain ⟨a1,a2⟩:=h1;obtain ⟨b1,b2⟩:=h2;simp [r05_operands,r05_register,r05_within,WP.join_iff,WP.bif_iff,WP.chk_iff,WP.call_iff,WP.ret_iff];omega
 | store s a h1 h2=>obtain ⟨a1,a2⟩:=h1;obtain ⟨b1,b2⟩:=h2;simp [r05_operands,r05_register,r05_within,WP.join_iff,WP.bif_iff,WP.chk_iff,WP.call_iff,WP.ret_iff];omega
 | move s t h1 h2 h3=>obtain ⟨a1,a2⟩:=h1;obtain ⟨b1,b2⟩:=h2;simp [r05_operands,r05_register,r05_within,WP.join_iff,WP.bif_iff,WP.chk_iff,WP.call_iff,WP.ret_iff];omega
 | arg a r h1 h2=>obtain ⟨a1,a2⟩:=h1;obtain ⟨b1,b2⟩:=h2;simp [r05_operands,r05_register,r05_within,WP.join_iff,WP.bif_iff,WP.chk_iff,WP.call_iff,WP.ret_iff];omega
 | param a k h1 h2=>obtain ⟨a1,a2⟩:=h1;obtain ⟨b1,b2⟩:=h2;simp [r05_operands,r05_register,r05_within,WP.join_iff,WP.bif_iff,WP.chk_iff,WP.call_iff,WP.ret_iff];omega
 | jump t h1=>simp [r05_operands,r05_register,r05_within,WP.join_iff,WP.bif_iff,WP.chk_iff,WP.call_iff,WP.ret_iff]
 | branch a t h1 h2=>obtain ⟨a1,a2⟩:=h1;simp [r05_operands,r05_register,r05_within,WP.join_iff,WP.bif_iff,WP.chk_iff,WP.call_iff,WP.ret_iff];omega
 | call g h1 h2=>simp [r05_operands,r05_register,r05_within,WP.join_iff,WP.bif_iff,WP.chk_iff,WP.call_iff,WP.ret_iff];omega
 | ret=>simp [r05_operands,r05_register,r05_within,WP.join_iff,WP.bif_iff,WP.chk_iff,WP.call_iff,WP.ret_iff]
 | trap w h1=>simp [r05_operands,r05_register,r05_within,WP.join_iff,WP.bif_iff,WP.chk_iff,WP.call_iff,WP.ret_iff]
def formB (x:AInstr) (q:Bool × Bool × Bool × Bool):Prop:=(q.1=false→x.A=0)∧(q.2.1=false→x.B=0)∧(q.2.2.1=false→x.C=0)∧(q.2.2.2=false→x.Imm=0)
theorem Operands_sp {n i par:Int} {sl:List ASlot} {J:Int→Prop} {x:AInstr} (h:WfI n i par sl J x):WP (r05_Operands x.Op) (formB x)∧0≤x.Op∧x.Op<25:=by
 cases h with
 | copy o a b h1 h2 h3=>rcases h1 with rfl| rfl<;>simp [r05_Operands,formB,WP.join_iff,WP.bif_iff,WP.ret_iff]
 | arith o a b c h1 h2 h3 h4 h5=>
   have:o=2∨o=3∨o=4∨o=5∨o=6∨o=7∨o=8∨o=9∨o=10∨o=11:=by omega
   rcases this with rfl| rfl| rfl| rfl| rfl| rfl| rfl| rfl| rfl| rfl<;>simp [r05_Operands,formB,WP.join_iff,WP.bif_iff,WP.ret_iff]
 | io o a h1 h2=>rcases h1 with rfl| rfl<;>simp [r05_Operands,formB,WP.join_iff,WP.bif_iff,WP.ret_iff]
 | _=>simp [r05_Operands,formB,WP.join_iff,WP.bif_iff,WP.ret_iff]
theorem checkInstr_sp {p:AProgram} (hp:WfP p) {i k:Int} (hi:inN i p.Funcs.length) (hk:inN k (atD p.Funcs i).Code.length):WP (r05_CheckInstr p i k) (·=0):=by
 have hf:=hp.func i hi.1 hi.2
 have hI:=hf.at_ hk
 obtain ⟨j1,j2⟩:=jump_in26 hf hk
 unfold r05_CheckInstr
 refine WP.call (within5_sp _ _) ?_
 rintro _ rfl
 refine WP.bif (fun wh=>by exfalso;obtain ⟨q1,q2⟩:=hi;simp at wh;omega) fun _=>?_
 refine WP.chk hi fun _=>?_
 refine WP.call (within5_sp _ _) ?_
 rintro _ rfl
 refine WP.bif (fun wh=>by exfalso;obtain ⟨q1,q2⟩:=hk;simp at wh;omega) fun _=>?_
 refine WP.chk hi fun _=>?_
 refine WP.chk hk fun _=>?_
 obtain ⟨o1,o2,o3⟩:=Operands_sp hI
 have hops:=operands_sp (p:=p) (f:=atD p.Funcs i) rfl rfl hi.1 hI
 have hmv:(atD (atD p.Funcs i).Code k).Op=17→inN (atD (atD p.Funcs i).Code k).A (atD p.Funcs i).Slots.length∧inN (atD (atD p.Funcs i).Code k).B (atD p.Funcs i).Slots.length∧(atD (atD p.Funcs i).Slots (atD (atD p.Funcs i).Code k).A).Size=(atD (atD p.Funcs i).Slots (atD (atD p.Funcs i).Code k).B).Size:=fun h17=>by
  generalize atD (atD p.Funcs i).Code k=x at*
  cases hI<;>first| exact ⟨by assumption,by assumption,by assumption⟩| (simp at h17;done)| (exfalso;dsimp only at h17;omega)
 clear hI
 generalize atD p.Funcs i=f at*
 generalize atD f.Code k=x at*
 refine WP.call (within5_sp _ _) ?_
 rintro _ rfl
 refine WP.bif (fun wh=>by exfalso;simp at wh;omega) fun _=>?_
 refine WP.call o1 fun q ⟨e1,e2,e3,e4⟩=>?_
 refine WP.join (fun b=>b=false) ?_ ?_
 ·rintro _ rfl
  refine WP.bif (fun wh=>by cases wh) fun _=>?_
  refine WP.call hops ?_
  rintro _ rfl
  refine WP.bif (fun wh=>by cases wh) fun _=>?_
  refine WP.join (fun _=>True) ?_ ?_
  ·intro _ _
   refine WP.bif (fun wh=>?_) (fun wh=>?_)<;>(try simp only [wpH] at wh)
   ·obtain ⟨q1,q2⟩:=j1 wh
    have h20:=wh
    refine WP.call (within5_sp _ _) ?_
    rintro _ rfl
    refine WP.bif (fun wh=>by exfalso;simp at wh;omega) fun _=>?_
    exact WP.bif (fun wh=>by exfalso;simp at wh;omega) fun _=>WP.ret rfl
   ·refine WP.bif (fun wh=>?_) (fun _=>WP.ret rfl)<;>(try simp only [wpH] at wh)
    obtain ⟨q1,q2⟩:=j2 wh
    refine WP.call (within5_sp _ _) ?_
    rintro _ rfl
    exact WP.bif (fun wh=>by exfalso;simp at wh;omega) fun _=>WP.ret rfl
  ·intro k3 hk3
   refine WP.bif (fun wh=>?_) (fun _=>hk3 _ trivial)<;>(try simp only [wpH] at wh)
   obtain ⟨m1,m2,m3⟩:=hmv wh
   refine WP.chk m1 fun _=>?_
   refine WP.chk m2 fun _=>?_
   exact WP.bif (fun wh=>by exfalso;rw [Bool.not_eq_true',decide_eq_false_iff_not] at wh;exact wh m3) fun _=>hk3 _ trivial
 ·intro k2 hk2
  obtain ⟨qa,qb,qc,qd⟩:=q
  dsimp only at e1 e2 e3 e4 ⊢
  have hf:=hk2 _ rfl
  cases qa<;>cases qb<;>cases qc<;>cases qd<;>simp_all [WP.bif_iff]
theorem terminator_sp (o:Int) (h:o=23∨o=24):WP (r05_Terminator o) (·=true):=by
 unfold r05_Terminator
 rcases h with rfl| rfl<;>simp [WP.bif_iff,WP.ret_iff]
theorem checkFunc_sp {p:AProgram} (hp:WfP p) {i:Int} (hi:inN i p.Funcs.length):WP (r05_CheckFunc p i) (·=0):=by
 have hf:=hp.func i hi.1 hi.2
 have hc:=hf.code
 have hsl:=hf.slots
 have hpar:=hp.par _ (atD_mem hi)
 have hci:=fun k hk=>checkInstr_sp hp hi (k:=k) hk
 unfold r05_CheckFunc
 refine WP.call (within5_sp _ _) ?_
 rintro _ rfl
 refine WP.bif (fun wh=>by exfalso;obtain ⟨q1,q2⟩:=hi;simp at wh;omega) fun _=>?_
 refine WP.chk hi fun _=>?_
 generalize atD p.Funcs i=f at*
 refine WP.bif (fun wh=>by exfalso;rw [decide_eq_true_eq] at wh;omega) fun _=>?_
 refine WP.call (slots3_sp f.Slots (by omega)) ?_
 rintro _ rfl
 rw [slotsE_right (by omega) hf.rightS]
 refine WP.bif (fun wh=>by simp at wh) fun _=>?_
 refine WP.bif (fun wh=>by exfalso;rw [decide_eq_true_eq] at wh;omega) fun _=>?_
 refine WP.bif (fun wh=>by exfalso;rw [decide_eq_true_eq] at wh;omega) fun _=>?_
 refine WP.loop (fun j=>0≤j∧j≤f.Code.length) (fun j=>f.Code.length- j.toNat) ⟨by omega,by omega⟩ ?_
 rintro again k ⟨a1,a2⟩ ih
 refine WP.bif (fun wh=>?_) (fun wh=>?_)<;>(try simp only [wpH] at wh)
 ·refine WP.call (hci k ⟨a1,wh⟩) ?_
  rintro _ rfl
  refine WP.bif (fun wh=>by simp at wh) fun _=>?_
  refine WP.chk ⟨by omega,by omega⟩ fun _=>?_
  exact ih _ ⟨by omega,by omega⟩ (by omega)
 ·refine WP.bif (fun wh=>by exfalso;rw [decide_eq_true_eq] at wh;omega) fun _=>?_
  refine WP.chk ⟨by omega,by omega⟩ fun _=>?_
  refine WP.chk ⟨by omega,by omega⟩ fun _=>?_
  refine WP.call (terminator_sp _ hf.last) ?_
  rintro _ rfl
  exact WP.bif (fun wh=>by cases wh) fun _=>WP.ret rfl
theorem check5_sp {p:AProgram} (hp:WfP p):WP (r05_Check p) (·=0):=by
 have hl:=hp.len
 have he:=hp.entry
 have hcf:=fun i hi=>checkFunc_sp hp (i:=i) hi
 unfold r05_Check
 refine WP.bif (fun wh=>by exfalso;rw [decide_eq_true_eq] at wh;omega) fun _=>?_
 refine WP.bif (fun wh=>by exfalso;rw [decide_eq_true_eq] at wh;omega) fun _=>?_
 refine WP.chk ⟨by omega,by omega⟩ fun _=>?_
 refine WP.bif (fun wh=>by exfalso;rw [Bool.not_eq_true',decide_eq_false_iff_not] at wh;exact wh he) fun _=>?_
 refine WP.loop (fun j=>0≤j∧j≤p.Funcs.length) (fun j=>p.Funcs.length- j.toNat) ⟨by omega,by omega⟩ ?_
 rintro again k ⟨a1,a2⟩ ih
 refine WP.bif (fun wh=>?_) (fun _=>WP.ret rfl)<;>(try simp only [wpH] at wh)
 refine WP.call (hcf k ⟨a1,wh⟩) ?_
 rintro _ rfl
 refine WP.bif (fun wh=>by simp at wh) fun _=>?_
 refine WP.chk ⟨by omega,by omega⟩ fun _=>?_
 exact ih _ ⟨by omega,by omega⟩ (by omega)
def u64R (n:Int):Prop:=0≤n∧n≤18446744073709551615
def valR (v:AValue):Prop:=u64R v.Lo∧u64R v.Hi
theorem bits_rng (op:BinOp) (h:op=.and∨op=.or∨op=.xor) (a b:Int):u64R (Go.bits op .u64 a b):=by
 have key:∀n:Int,u64R (IntKind.u64.wrap n):=fun n=>by
  rw [IntKind.wrap_u64];unfold u64R;omega
 rcases h with rfl| rfl| rfl
 ·exact key _
 ·exact key _
 ·exact key _
theorem or_rng (a b:Int):u64R (Go.bits .or .u64 a b):=bits_rng .or (.inr (.inl rfl)) a b
theorem and_rng (a b:Int):u64R (Go.bits .and .u64 a b):=bits_rng .and (.inl rfl) a b
theorem xor_rng (a b:Int):u64R (Go.bits .xor .u64 a b):=bits_rng .xor (.inr (.inr rfl)) a b
theorem wrap_rng (n:Int):u64R (IntKind.u64.wrap n):=by rw [IntKind.wrap_u64];unfold u64R;omega
theorem and_one (a:Int):0≤Go.bits .and .u64 a 1∧Go.bits .and .u64 a 1≤1:=by
 show 0≤IntKind.u64.wrap ((BitVec.ofInt 64 a&&&BitVec.ofInt 64 1).toNat:Int)∧IntKind.u64.wrap ((BitVec.ofInt 64 a&&&BitVec.ofInt 64 1).toNat:Int)≤1
 rw [BitVec.toNat_and,IntKind.wrap_u64]
 have h1:(BitVec.ofInt 64 1).toNat=1:=by decide
 have h2:(BitVec.ofInt 64 a).toNat&&&(BitVec.ofInt 64 1).toNat≤1:=by
  have:=Nat.and_le_right (n:=(BitVec.ofInt 64 a).toNat) (m:=(BitVec.ofInt 64 1).toNat)
  rw [h1] at this ⊢;exact this
 omega
theorem bit02_sp (x:AValue) (k:Int) (hk:0≤k∧k<128):WP (r02_bit x k) fun r=>0≤r∧r≤1:=by
 unfold r02_bit
 refine WP.bif (fun w=>?_) (fun w=>?_)<;>(try simp only [wpH] at wh)
 ·have w':k<64:=by simpa using w
  exact WP.chk ⟨by omega,by omega⟩ fun _=>WP.ret (and_one _)
 ·have w':¬k<64:=by simpa using w
  exact WP.chk ⟨by omega,by omega⟩ fun _=>WP.chk ⟨by omega,by omega⟩ fun _=>WP.ret (and_one _)
theorem set02_sp (x:AValue) (k:Int) (hx:valR x) (hk:0≤k∧k<128):WP (r02_set x k) valR:=by
 unfold r02_set
 refine WP.bif (fun w=>?_) (fun w=>?_)
 ·have w':k<64:=by simpa using w
  exact WP.chk ⟨by omega,by omega,pow_64 hk.1 w'⟩ fun _=>WP.ret ⟨or_rng _ _,hx.2⟩
 ·have w':¬k<64:=by simpa using w
  refine WP.chk ⟨by omega,by omega⟩ fun _=>WP.chk ⟨by omega,by omega,pow_64 (by omega) (by omega)⟩ fun _=>WP.ret ⟨hx.1,or_rng _ _⟩
theorem add02_sp (x y:AValue):WP (r02_Add x y) valR:=by
 unfold r02_Add
 refine WP.loop (fun j=>0≤j.1∧j.1≤1∧0≤j.2.1∧j.2.1≤128∧valR j.2.2) (fun j=>(128- j.2.1).toNat) ⟨by simp,by simp,by simp,by simp,⟨by simp [u64R],by simp [u64R]⟩⟩ ?_
 rintro again ⟨c,k,out⟩ ⟨a1,a2,a3,a4,a5⟩ ih
 dsimp only at a1 a2 a3 a4 a5 ⊢
 refine WP.bif (fun w=>?_) (fun w=>WP.ret a5)
 have hk:k<128:=by simpa using w
 refine WP.call (bit02_sp x k ⟨a3,hk⟩) fun b1 h1=>?_
 refine WP.call (bit02_sp y k ⟨a3,hk⟩) fun b2 h2=>?_
 have e:(b1+b2+c) / 2 ^ (1:Int).toNat=(b1+b2+c) / 2:=rfl
 refine WP.chk ⟨by omega,by omega⟩ fun _=>WP.chk ⟨by omega,by omega⟩ fun _=>?_
 rw [e]
 refine WP.bif (fun w2=>?_) (fun w2=>?_)
 ·refine WP.call (set02_sp out k a5 ⟨a3,hk⟩) fun o ho=>?_
  exact WP.chk ⟨by omega,by omega⟩ fun _=>WP.chk ⟨by omega,by omega⟩ fun _=>ih _ ⟨by dsimp only;omega,by dsimp only;omega,by dsimp only;omega,by dsimp only;omega,ho⟩ (by dsimp only;omega)
 ·exact WP.chk ⟨by omega,by omega⟩ fun _=>WP.chk ⟨by omega,by omega⟩ fun _=>ih _ ⟨by dsimp only;omega,by dsimp only;omega,by dsimp only;omega,by dsimp only;omega,a5⟩ (by dsimp only;omega)
theorem sub02_sp (x y:AValue):WP (r02_Sub x y) valR:=by
 unfold r02_Sub
 exact WP.call (add02_sp _ _) fun a _=>WP.call (add02_sp _ _) fun b hb=>WP.ret hb
theorem twice02_sp (x:AValue):WP (r02_twice x) valR:=by
 unfold r02_twice
 exact WP.chk ⟨by omega,by omega⟩ fun _=>WP.chk ⟨by omega,by omega⟩ fun _=>WP.chk ⟨by omega,by omega⟩ fun _=>WP.ret ⟨wrap_rng _,or_rng _ _⟩
theorem less02_sp (x y:AValue):WP (r02_Less x y) fun _=>True:=by
 unfold r02_Less
 exact WP.bif (fun _=>WP.ret trivial) fun _=>WP.bif (fun _=>WP.ret trivial) fun _=>WP.ret trivial
theorem mul02_sp (x y:AValue):WP (r02_Mul x y) valR:=by
 unfold r02_Mul
 refine WP.loop (fun j=> -1≤j.1∧j.1≤127∧valR j.2) (fun j=>(j.1+1).toNat) ⟨by simp,by simp,⟨by simp [u64R],by simp [u64R]⟩⟩ ?_
 rintro again ⟨k,out⟩ ⟨a1,a2,a3⟩ ih
 dsimp only at a1 a2 a3 ⊢
 refine WP.bif (fun w=>?_) (fun w=>WP.ret a3)
 have hk:0≤k:=by simpa using w
 refine WP.call (twice02_sp out) fun o ho=>?_
 refine WP.call (bit02_sp y k ⟨hk,by omega⟩) fun b hb=>?_
 refine WP.bif (fun _=>?_) (fun _=>?_)
 ·exact WP.call (add02_sp _ _) fun a ha=>WP.chk ⟨by omega,by omega⟩ fun _=>ih _ ⟨by dsimp only;omega,by dsimp only;omega,ha⟩ (by dsimp only;omega)
 ·exact WP.chk ⟨by omega,by omega⟩ fun _=>ih _ ⟨by dsimp only;omega,by dsimp only;omega,ho⟩ (by dsimp only;omega)
theorem div02_sp (x y:AValue):WP (r02_Div x y) valR:=by
 unfold r02_Div
 refine WP.loop (fun j=> -1≤j.1∧j.1≤127∧valR j.2.1) (fun j=>(j.1+1).toNat) ⟨by simp,by simp,⟨by simp [u64R],by simp [u64R]⟩⟩ ?_
 rintro again ⟨k,out,rest⟩ ⟨a1,a2,a3⟩ ih
 dsimp only at a1 a2 a3 ⊢
 refine WP.bif (fun w=>?_) (fun w=>WP.ret a3)
 have hk:0≤k:=by simpa using w
 refine WP.chk ⟨by omega,by omega⟩ fun _=>?_
 refine WP.call (twice02_sp rest) fun r hr=>?_
 refine WP.call (bit02_sp x k ⟨hk,by omega⟩) fun b hb=>?_
 have fin:∀o,valR o→∀r',WP (M.chk (okI (k- 1))<| again ((k- 1),o,r')) valR:=fun o ho r'=>WP.chk ⟨by omega,by omega⟩ fun _=>ih _ ⟨by dsimp only;omega,by dsimp only;omega,ho⟩ (by dsimp only;omega)
 refine WP.bif (fun _=>?_) (fun _=>?_)
 ·exact WP.call (sub02_sp _ _) fun z hz=>WP.call (set02_sp out k a3 ⟨hk,by omega⟩) fun o ho=>fin o ho z
 ·refine WP.call (less02_sp _ _) fun l _=>?_
  refine WP.bif (fun _=>?_) (fun _=>fin out a3 _)
  exact WP.call (sub02_sp _ _) fun z hz=>WP.call (set02_sp out k a3 ⟨hk,by omega⟩) fun o ho=>fin o ho z
theorem apply02_tot (op:Int) (x y:AValue) (hx:valR x) (hy:valR y):WP (r02_Apply op x y) fun r=>valR r.1:=by
 have z:valR ⟨0,0⟩:=⟨by simp [u64R],by simp [u64R]⟩
 have tr:∀b,WP (r02_truth b) valR:=fun b=>by
  unfold r02_truth
  exact WP.bif (fun _=>WP.ret ⟨by simp [u64R],by simp [u64R]⟩) fun _=>WP.ret z
 unfold r02_Apply
 refine WP.bif (fun _=>WP.call (add02_sp _ _) fun a ha=>WP.ret ha) fun _=>?_
 refine WP.bif (fun _=>WP.call (sub02_sp _ _) fun a ha=>WP.ret ha) fun _=>?_
 refine WP.bif (fun _=>WP.call (mul02_sp _ _) fun a ha=>WP.ret ha) fun _=>?_
 refine WP.bif (fun _=>?_) fun _=>?_
 ·refine WP.join (fun _=>True) (fun _ _=>WP.call (div02_sp _ _) fun a ha=>WP.ret ha) fun k hk=>?_
  exact WP.bif (fun _=>WP.bif (fun _=>WP.ret z) fun _=>hk _ trivial) fun _=>hk _ trivial
 refine WP.bif (fun _=>WP.ret ⟨and_rng _ _,and_rng _ _⟩) fun _=>?_
 refine WP.bif (fun _=>WP.ret ⟨or_rng _ _,or_rng _ _⟩) fun _=>?_
 refine WP.bif (fun _=>WP.ret ⟨xor_rng _ _,xor_rng _ _⟩) fun _=>?_
 refine WP.bif (fun _=>WP.call (less02_sp _ _) fun a _=>WP.call (tr a) fun b hb=>WP.ret hb) fun _=>?_
 exact WP.bif (fun _=>WP.call (tr _) fun b hb=>WP.ret hb) fun _=>WP.ret z
noncomputable def applyV (op:Int) (x y:AValue):AValue × Bool:=by
 classical exact if h:∃r,r02_Apply op x y r∧valR r.1 then Classical.choose h else (⟨0,0⟩,false)
theorem apply02_sp (op:Int) (x y:AValue) (hx:valR x) (hy:valR y):WP (r02_Apply op x y) (·=applyV op x y)∧valR (applyV op x y).1:=by
 have h:∃r,r02_Apply op x y r∧valR r.1:=apply02_tot op x y hx hy
 have e:applyV op x y=Classical.choose h:=by unfold applyV;rw [dif_pos h]
 rw [e]
 exact ⟨⟨_,(Classical.choose_spec h).1,rfl⟩,(Classical.choose_spec h).2⟩
def sizeR (n:Int):Prop:=n=1∨n=2∨n=4∨n=8∨n=16
instance (n:Int):Decidable (sizeR n):=by unfold sizeR;infer_instance
theorem size02_sp (n:Int):WP (r02_Size n) (·=decide (sizeR n)):=by
 unfold r02_Size sizeR
 (repeat' (first| (refine WP.chk (by (first| omega| (simp only [wpN] at*;omega))) fun _=>?_)| ((refine WP.bif (fun wh=>?_) (fun wh=>?_))<;>(try simp only [wpH] at wh)<;>(try (exfalso;omega)))))
 all_goals (refine WP.ret ?_;simp [*])
def byteV (x:AValue) (k:Int):Int:=if k<8 then (x.Lo / 2 ^ (8*k).toNat) % 256 else (x.Hi / 2 ^ (8*(k- 8)).toNat) % 256
theorem byteV_rng (x:AValue) (k:Int):0≤byteV x k∧byteV x k≤255:=by
 unfold byteV
 split<;>omega
def bytesV (x:AValue) (n:Int):List Int:=(List.range n.toNat).map fun k:Nat=>byteV x (k:Int)
theorem bytesV_length (x:AValue) (n:Int):(bytesV x n).length=n.toNat:=by simp [bytesV]
theorem bytesV_at (x:AValue) {n k:Int} (hk:0≤k∧k<n):atD (bytesV x n) k=byteV x k:=by
 have h:k.toNat<(bytesV x n).length:=by rw [bytesV_length];omega
 have:=atD_nat h
 rw [Int.toNat_of_nonneg hk.1] at this
 rw [this]
 simp [bytesV,Int.toNat_of_nonneg hk.1]
theorem bytes02_sp (x:AValue) (n:Int) (hx:valR x) (hn:sizeR n):WP (r02_Bytes x n) (·=bytesV x n):=by
 have hn2:1≤n∧n≤16:=by unfold sizeR at hn;omega
 unfold r02_Bytes
 refine WP.loop (fun j=>0≤j.1∧j.1≤n∧j.2=bytesV x j.1) (fun j=>(n- j.1).toNat) ⟨by simp,by dsimp only;omega,rfl⟩ ?_
 rintro again ⟨k,out⟩ ⟨a1,a2,a3⟩ ih
 dsimp only at a1 a2 a3 ⊢
 refine WP.call (size02_sp n) ?_
 rintro _ rfl
 refine WP.bif (fun _=>?_) (fun w=>by simp [hn] at w)
 have hl:out.length=k.toNat:=by rw [a3,bytesV_length]
 have hnext:k<n→out++[byteV x k]=bytesV x (k+1):=fun hk=>by
  rw [a3]
  unfold bytesV
  rw [show (k+1).toNat=k.toNat+1 by omega,List.range_succ,List.map_append]
  simp [Int.toNat_of_nonneg a1]
 refine WP.bif (fun w=>?_) (fun w=>?_)
 ·have hk:k<n:=by simpa using w
  refine WP.bif (fun w8=>?_) (fun w8=>?_)
  ·have h8:k<8:=by simpa using w8
   refine WP.chk ⟨by omega,by omega⟩ fun _=>WP.chk ⟨by omega,by omega⟩ fun _=>WP.chk (by simp only [List.length_cons,List.length_nil];omega) fun _=>WP.chk ⟨by omega,by omega⟩ fun _=>?_
   refine ih _ ⟨by dsimp only;omega,by dsimp only;omega,?_⟩ (by dsimp only;omega)
   dsimp only
   rw [←hnext hk]
   unfold byteV
   rw [if_pos h8]
   rw [IntKind.wrap_u8]
  ·have h8:¬k<8:=by simpa using w8
   refine WP.chk ⟨by omega,by omega⟩ fun _=>WP.chk ⟨by omega,by omega⟩ fun _=>WP.chk ⟨by omega,by omega⟩ fun _=>WP.chk (by simp only [List.length_cons,List.length_nil];omega) fun _=>WP.chk ⟨by omega,by omega⟩ fun _=>?_
   refine ih _ ⟨by dsimp only;omega,by dsimp only;omega,?_⟩ (by dsimp only;omega)
   dsimp only
   rw [←hnext hk]
   unfold byteV
   rw [if_neg h8]
   rw [IntKind.wrap_u8]
 ·have hk:¬k<n:=by simpa using w
  refine WP.ret ?_
  rw [a3];congr 1;omega
def wordB (b:List Int) (i:Int):Nat→Int
 | 0=>0
 | c+1=>wordB b i c+(if i+c<b.length then atD b (i+c)*2 ^ (8*c) else 0)
def fromB (b:List Int):AValue:=⟨wordB b 0 8,wordB b 8 8⟩
def bytesR (b:List Int):Prop:=∀z∈b,0≤z∧z≤255
theorem pow8:∀c:Nat,c<8→1≤(2:Int) ^ (8*c)∧256*(2:Int) ^ (8*c)≤18446744073709551616∧(2:Int) ^ (8*(c+1))=256*(2:Int) ^ (8*c)
 | 0,_=>by decide
 | 1,_=>by decide
 | 2,_=>by decide
 | 3,_=>by decide
 | 4,_=>by decide
 | 5,_=>by decide
 | 6,_=>by decide
 | 7,_=>by decide
 | n+8,h=>by omega
theorem wordB_lt {b:List Int} (hb:bytesR b) {i:Int} (hi:0≤i):∀c:Nat,c≤8→0≤wordB b i c∧wordB b i c<2 ^ (8*c)
 | 0,_=>by simp [wordB]
 | c+1,hc=>by
   have ih:=wordB_lt hb hi c (by omega)
   obtain ⟨h1,h2,h3⟩:=pow8 c (by omega)
   rw [h3]
   unfold wordB
   generalize (2:Int) ^ (8*c)=P at*
   split
   ·rename_i hlt
    have hz:=hb _ (atD_mem ⟨by omega,hlt⟩)
    generalize atD b (i+c)=z at*
    have q1:0≤z*P:=Int.mul_nonneg hz.1 (by omega)
    have q2:z*P≤255*P:=Int.mul_le_mul_of_nonneg_right hz.2 (by omega)
    omega
   ·omega
theorem or_word {b:List Int} (hb:bytesR b) {i:Int} (hi:0≤i) {c:Nat} (hc:c<8) (hl:i+c<b.length):
 (0≤atD b (i+c)∧atD b (i+c)≤255)∧(0≤atD b (i+c)*2 ^ (8*c)∧atD b (i+c)*2 ^ (8*c)≤18446744073709551615)∧Go.bits .or .u64 (wordB b i c) (atD b (i+c)*2 ^ (8*c))=wordB b i (c+1):=by
 have hz:=hb _ (atD_mem (l:=b) (i:=i+c) ⟨by omega,hl⟩)
 obtain ⟨h1,h2,h3⟩:=pow8 c hc
 obtain ⟨w1,w2⟩:=wordB_lt hb hi c (by omega)
 have e:wordB b i (c+1)=wordB b i c+atD b (i+c)*2 ^ (8*c):=by
  show wordB b i c+(if i+c<b.length then _ else 0)=_
  rw [if_pos hl]
 have q1:0≤atD b (i+c)*2 ^ (8*c):=Int.mul_nonneg hz.1 (by omega)
 have q2:atD b (i+c)*2 ^ (8*c)≤255*2 ^ (8*c):=Int.mul_le_mul_of_nonneg_right hz.2 (by omega)
 refine ⟨hz,⟨q1,by omega⟩,?_⟩
 rw [e]
 refine bits_join_low .u64 64 (by decide) wraps_u64 (8*c) _ _ w1 w2 ?_ q1 (Int.mul_emod_left _ _) ?_
 ·exact Int.lt_of_lt_of_le w2 (by have:(2:Int) ^ 64=18446744073709551616:=by decide
                                  omega)
 ·have:(2:Int) ^ 64=18446744073709551616:=by decide
  omega
theorem from02_sp (b:List Int) (hb:bytesR b) (hl:b.length≤16):WP (r02_FromBytes b) (·=fromB b):=by
 have wz:∀(i:Int) (c d:Nat),c≤d→(b.length:Int)≤i+c→wordB b i d=wordB b i c:=fun i c d hcd hle=>by
  induction d with
  | zero=>rw [show c=0 by omega]
  | succ d ih=>
    by_cases h:c=d+1
    ·rw [h]
    ·show wordB b i d+(if i+d<b.length then _ else 0)=_
     rw [if_neg (by omega),ih (by omega),Int.add_zero]
 unfold r02_FromBytes
 refine WP.loop (fun j=>0≤j.1∧j.1≤b.length∧j.2.1=wordB b 0 (min j.1.toNat 8)∧j.2.2=wordB b 8 (j.1.toNat- 8)) (fun j=>(b.length- j.1).toNat) ⟨by simp,by simp,rfl,rfl⟩ ?_
 rintro again ⟨k,Lo,Hi⟩ ⟨a1,a2,a3,a4⟩ ih
 dsimp only at a1 a2 a3 a4 ⊢
 refine WP.bif (fun w=>?_) (fun w=>?_)
 ·have hk:k<b.length:=by simpa using w
  refine WP.bif (fun w16=>?_) (fun w16=>?_)
  ·refine WP.bif (fun w8=>?_) (fun w8=>?_)
   ·have h8:k<8:=by simpa using w8
    have h:=or_word hb (i:=0) (by omega) (c:=k.toNat) (by omega) (by omega)
    rw [show (0:Int)+(k.toNat:Int)=k by omega] at h
    obtain ⟨h1,h2,h3⟩:=h
    have e8:((8:Int)*k).toNat=8*k.toNat:=by omega
    rw [e8,a3,show min k.toNat 8=k.toNat by omega,h3]
    refine WP.chk ⟨a1,hk⟩ fun _=>WP.chk ⟨by omega,by omega⟩ fun _=>WP.chk ⟨by omega,by omega⟩ fun _=>WP.chk ⟨by omega,by omega,h2⟩ fun _=>WP.chk ⟨by omega,by omega⟩ fun _=>?_
    refine ih _ ⟨by dsimp only;omega,by dsimp only;omega,?_,?_⟩ (by dsimp only;omega)
    ·dsimp only;congr 1;omega
    ·dsimp only;rw [a4,show k.toNat- 8=0 by omega,show (k+1).toNat- 8=0 by omega]
   ·have h8:¬k<8:=by simpa using w8
    have h:=or_word hb (i:=8) (by omega) (c:=k.toNat- 8) (by omega) (by omega)
    rw [show (8:Int)+((k.toNat- 8:Nat):Int)=k by omega] at h
    obtain ⟨h1,h2,h3⟩:=h
    have e8:((8:Int)*(k- 8)).toNat=8*(k.toNat- 8):=by omega
    rw [e8,a4,h3]
    refine WP.chk ⟨a1,hk⟩ fun _=>WP.chk ⟨by omega,by omega⟩ fun _=>WP.chk ⟨by omega,by omega⟩ fun _=>WP.chk ⟨by omega,by omega⟩ fun _=>WP.chk ⟨by omega,by omega,h2⟩ fun _=>WP.chk ⟨by omega,by omega⟩ fun _=>?_
    refine ih _ ⟨by dsimp only;omega,by dsimp only;omega,?_,?_⟩ (by dsimp only;omega)
    ·dsimp only;rw [a3];congr 1;omega
    ·dsimp only;congr 1;omega
  ·have h16:¬k<16:=by simpa using w16
   omega
 ·have hk:¬k<b.length:=by simpa using w
  have hkl:k=b.length:=by omega
  refine WP.ret ?_
  unfold fromB
  have e1:wordB b 0 8=wordB b 0 (min k.toNat 8):=by
   by_cases h8:k<8
   ·exact wz 0 (min k.toNat 8) 8 (by omega) (by omega)
   ·rw [show min k.toNat 8=8 by omega]
  rw [a3,a4,e1,wz 8 (k.toNat- 8) 8 (by omega) (by omega)]
theorem bytesV_rng (x:AValue) (n:Int):bytesR (bytesV x n):=fun z hz=>by
 obtain ⟨k,_,rfl⟩:=List.mem_map.1 hz
 exact byteV_rng x k
theorem mod_step {a P:Int} (ha:0≤a) (hP:0<P):a % (256*P)=a % P+a / P % 256*P:=by
 have h1:a % P=a- P*(a / P):=Int.emod_def a P
 have h0:=Int.emod_nonneg a (Int.ne_of_gt hP)
 have h2:=Int.emod_lt_of_pos a hP
 generalize a / P=q at*
 have h3:q % 256*P=q*P- 256*(q / 256)*P:=by rw [Int.emod_def,Int.sub_mul]
 have h4:256*P*(q / 256)=256*(q / 256)*P:=by rw [Int.mul_assoc,Int.mul_comm P,←Int.mul_assoc]
 have h5:P*q=q*P:=Int.mul_comm _ _
 have h6:0≤q % 256*P:=Int.mul_nonneg (by omega) (by omega)
 have h7:q % 256*P≤255*P:=Int.mul_le_mul_of_nonneg_right (by omega) (by omega)
 have e:a=(a % P+q % 256*P)+256*P*(q / 256):=by rw [h1,h3,h4,h5];omega
 have e2:a % (256*P)=((a % P+q % 256*P)+256*P*(q / 256)) % (256*P):=congrArg (· % (256*P)) e
 rw [e2,Int.add_mul_emod_self_left]
 exact Int.emod_eq_of_lt (by omega) (by omega)
theorem word_bytes (x:AValue) (n:Int) (hx:valR x) (hn:sizeR n):(∀c:Nat,c≤8→(c:Int)≤n→wordB (bytesV x n) 0 c=x.Lo % 2 ^ (8*c))∧(∀c:Nat,c≤8→(c:Int)+8≤n→wordB (bytesV x n) 8 c=x.Hi % 2 ^ (8*c)):=by
 have hlen:((bytesV x n).length:Int)=n:=by rw [bytesV_length];unfold sizeR at hn;omega
 constructor
 ·intro c
  induction c with
  | zero=>intro _ _;simp [wordB,Int.emod_one]
  | succ c ih=>
    intro h1 h2
    obtain ⟨p1,p2,p3⟩:=pow8 c (by omega)
    show wordB (bytesV x n) 0 c+(if _ then _ else 0)=_
    rw [ih (by omega) (by omega),if_pos (by omega),bytesV_at x ⟨by omega,by omega⟩,p3,mod_step hx.1.1 (by omega)]
    unfold byteV
    rw [if_pos (by omega),show ((8:Int)*(0+(c:Int))).toNat=8*c by omega]
 ·intro c
  induction c with
  | zero=>intro _ _;simp [wordB,Int.emod_one]
  | succ c ih=>
    intro h1 h2
    obtain ⟨p1,p2,p3⟩:=pow8 c (by omega)
    show wordB (bytesV x n) 8 c+(if _ then _ else 0)=_
    rw [ih (by omega) (by omega),if_pos (by omega),bytesV_at x ⟨by omega,by omega⟩,p3,mod_step hx.2.1 (by omega)]
    unfold byteV
    rw [if_neg (by omega),show ((8:Int)*(8+(c:Int)- 8)).toNat=8*c by omega]
def truncV (x:AValue) (n:Int):AValue:=fromB (bytesV x n)
theorem wordB_end {b:List Int} {i:Int}:∀(d c:Nat),c≤d→(b.length:Int)≤i+c→wordB b i d=wordB b i c
 | 0,c,h,_=>by rw [show c=0 by omega]
 | d+1,c,hcd,hle=>by
   by_cases h:c=d+1
   ·rw [h]
   ·show wordB b i d+(if i+d<b.length then _ else 0)=_
    rw [if_neg (by omega),wordB_end d c (by omega) hle,Int.add_zero]
theorem trunc_eq (x:AValue) (n:Int) (hx:valR x) (hn:sizeR n):truncV x n=⟨if n<8 then x.Lo % 2 ^ (8*n.toNat) else x.Lo,if n=16 then x.Hi else 0⟩:=by
 obtain ⟨h1,h2⟩:=word_bytes x n hx hn
 have hlen:((bytesV x n).length:Int)=n:=by rw [bytesV_length];unfold sizeR at hn;omega
 have p64:(2:Int) ^ (8*8)=18446744073709551616:=by decide
 have hxl:=hx.1
 have hxh:=hx.2
 unfold u64R at hxl hxh
 unfold truncV fromB
 congr 1
 ·by_cases hn8:n<8
  ·rw [if_pos hn8,wordB_end 8 n.toNat (by omega) (by unfold sizeR at hn;omega),h1 n.toNat (by omega) (by unfold sizeR at hn;omega)]
  ·rw [if_neg hn8,h1 8 (by omega) (by omega),p64];omega
 ·by_cases hn16:n=16
  ·rw [if_pos hn16,h2 8 (by omega) (by omega),p64];omega
  ·rw [if_neg hn16,wordB_end 8 0 (by omega) (by unfold sizeR at hn;omega)];rfl
theorem trunc_rng (x:AValue) (n:Int) (hx:valR x) (hn:sizeR n):valR (truncV x n):=by
 rw [trunc_eq x n hx hn]
 have hxl:=hx.1
 have hxh:=hx.2
 constructor
 ·dsimp only
  split
  ·have hp:(0:Int)<2 ^ (8*n.toNat):=by
    have:∃m:Nat,m=8*n.toNat:=⟨_,rfl⟩
    obtain ⟨m,hm⟩:=this
    rw [←hm]
    exact Int.pow_pos (by decide)
   have q1:=Int.emod_nonneg x.Lo (Int.ne_of_gt hp)
   have q2:x.Lo % 2 ^ (8*n.toNat)≤x.Lo:=by
    have:=Int.emod_def x.Lo (2 ^ (8*n.toNat))
    have q3:0≤2 ^ (8*n.toNat)*(x.Lo / 2 ^ (8*n.toNat)):=Int.mul_nonneg (by omega) (Int.ediv_nonneg hxl.1 (by omega))
    omega
   unfold u64R at*
   omega
  ·exact hxl
 ·dsimp only
  split
  ·exact hxh
  ·unfold u64R;omega
theorem trunc_16 (x:AValue) (hx:valR x):truncV x 16=x:=by
 rw [trunc_eq x 16 hx (by unfold sizeR;omega)]
 simp
theorem trunc_idem (x:AValue) (n:Int) (hx:valR x) (hn:sizeR n):truncV (truncV x n) n=truncV x n:=by
 rw [trunc_eq (truncV x n) n (trunc_rng x n hx hn) hn]
 rw [trunc_eq x n hx hn]
 dsimp only
 congr 1
 ·by_cases h:n<8
  ·rw [if_pos h,if_pos h,Int.emod_emod]
  ·rw [if_neg h,if_neg h]
 ·by_cases h:n=16
  ·rw [if_pos h,if_pos h]
  ·rw [if_neg h,if_neg h]
theorem trunc02_sp (x:AValue) (n:Int) (hx:valR x) (hn:sizeR n):WP (r02_Truncate x n) (·=truncV x n):=by
 unfold r02_Truncate
 refine WP.call (bytes02_sp x n hx hn) ?_
 rintro _ rfl
 refine WP.call (from02_sp _ (bytesV_rng x n) (by rw [bytesV_length];unfold sizeR at hn;omega)) ?_
 rintro _ rfl
 exact WP.ret rfl
theorem snoc26 {α:Type} [Inhabited α] (st:List α) (top:α):((((st++[top]).length:Nat):Int)- 1)=(st.length:Int)∧atD (st++[top]) (st.length:Int)=top∧sliceD (st++[top]) 0 (st.length:Int)=st∧∀x,setD (st++[top]) (st.length:Int) x=st++[x]:=by
 refine ⟨by simp,atD_last rfl,?_,fun x=>?_⟩
 ·unfold sliceD;simp
 ·unfold setD;simp
def regR (r:Arr8AValue):Prop:=∀i,valR (r.at_ i)
theorem set_at_or (r:Arr8AValue) (i j:Int) (v:AValue):(r.set i v).at_ j=v∨(r.set i v).at_ j=r.at_ j:=by
 unfold Arr8AValue.at_ Arr8AValue.set
 generalize i.toNat=a
 generalize j.toNat=b
 split<;>split<;>simp
theorem regR.set {r:Arr8AValue} (h:regR r) {v:AValue} (hv:valR v) (i:Int):regR (r.set i v):=fun j=>by
 rcases set_at_or r i j v with e| e<;>rw [e]
 ·exact hv
 ·exact h j
noncomputable def plainF (x:AInstr) (r:Arr8AValue) (inp:List Int) (tr:List AValue):Arr8AValue × List Int × List AValue × Bool:=
 if x.Op=0 then (r.set x.A ⟨x.Imm,0⟩,inp,tr,false)
 else if x.Op=1 then (r.set x.A (r.at_ x.B),inp,tr,false)
 else if x.Op=11 then (r.set x.A ⟨(r.at_ x.B).Lo,(r.at_ x.C).Lo⟩,inp,tr,false)
 else if x.Op=12 then (r.set x.A ⟨(r.at_ x.B).Hi,0⟩,inp,tr,false)
 else if x.Op=13 then (if 0<inp.length then ((r.set x.A ⟨0,0⟩).set x.A ⟨atD inp 0,0⟩,sliceD inp 1 inp.length,tr,false) else (r.set x.A ⟨0,0⟩,inp,tr,false))
 else if x.Op=14 then (r,inp,tr++[r.at_ x.A],false)
 else if (applyV x.Op (r.at_ x.B) (r.at_ x.C)).2=true then (r.set x.A (applyV x.Op (r.at_ x.B) (r.at_ x.C)).1,inp,tr,false) else (r,inp,tr,true)
def PlainI (x:AInstr):Prop:=(x.Op=0∧reg x.A∧wordR x.Imm)∨((x.Op=1∨x.Op=12)∧reg x.A∧reg x.B)∨(2≤x.Op∧x.Op≤11∧reg x.A∧reg x.B∧reg x.C)∨((x.Op=13∨x.Op=14)∧reg x.A)
theorem plain08_sp (x:AInstr) (r:Arr8AValue) (inp:List Int) (tr:List AValue) (hx:PlainI x) (hr:regR r) (hi:inp.length≤1000) (ht:tr.length≤1000):WP (r08_Plain x r inp tr) (·=plainF x r inp tr):=by
 unfold r08_Plain plainF
 have hreg:∀{n:Int},reg n→(0:Int)≤n∧n<8:=fun h=>h
 refine WP.join (fun j=>(j.2.2,j.1,j.2.1,false)=plainF x r inp tr) (fun j hj=>WP.ret hj) fun k hk=>?_
 unfold plainF at hk
 refine WP.bif (fun w=>?_) (fun w=>?_)
 ·have e:x.Op=0:=by simpa using w
  rcases hx with h| h| h| h<;>try (exfalso;omega)
  exact WP.chk h.2.1 fun _=>hk _ (by rw [if_pos e])
 have e0:¬x.Op=0:=by simpa using w
 rw [if_neg e0]
 simp only [if_neg e0] at hk
 refine WP.bif (fun w=>?_) (fun w=>?_)
 ·have e:x.Op=1:=by simpa using w
  rcases hx with h| h| h| h<;>try (exfalso;omega)
  exact WP.chk h.2.2 fun _=>WP.chk h.2.1 fun _=>by rw [if_pos e];simp only [if_pos e] at hk;exact hk _ rfl
 have e1:¬x.Op=1:=by simpa using w
 rw [if_neg e1]
 simp only [if_neg e1] at hk
 refine WP.bif (fun w=>?_) (fun w=>?_)
 ·have e:x.Op=11:=by simpa using w
  rcases hx with h| h| h| h<;>try (exfalso;omega)
  refine WP.chk h.2.2.2.1 fun _=>WP.chk h.2.2.2.2 fun _=>?_
  unfold r02_Pair
  refine WP.call (WP.ret rfl) ?_
  rintro _ rfl
  exact WP.chk h.2.2.1 fun _=>by rw [if_pos e];simp only [if_pos e] at hk;exact hk _ rfl
 have e11:¬x.Op=11:=by simpa using w
 rw [if_neg e11]
 simp only [if_neg e11] at hk
 refine WP.bif (fun w=>?_) (fun w=>?_)
 ·have e:x.Op=12:=by simpa using w
  rcases hx with h| h| h| h<;>try (exfalso;omega)
  refine WP.chk h.2.2 fun _=>?_
  unfold r02_High
  refine WP.call (WP.ret rfl) ?_
  rintro _ rfl
  exact WP.chk h.2.1 fun _=>by rw [if_pos e];simp only [if_pos e] at hk;exact hk _ rfl
 have e12:¬x.Op=12:=by simpa using w
 rw [if_neg e12]
 simp only [if_neg e12] at hk
 refine WP.bif (fun w=>?_) (fun w=>?_)
 ·have e:x.Op=13:=by simpa using w
  rcases hx with h| h| h| h<;>try (exfalso;omega)
  rw [if_pos e]
  simp only [if_pos e] at hk
  refine WP.chk h.2 fun _=>?_
  refine WP.bif (fun w=>?_) (fun w=>?_)
  ·have hl:(0:Int)<inp.length:=by simpa using w
   have hl':0<inp.length:=by omega
   rw [if_pos hl']
   simp only [if_pos hl'] at hk
   exact WP.chk ⟨by omega,by omega⟩ fun _=>WP.chk h.2 fun _=>WP.chk ⟨by omega,by omega,by omega⟩ fun _=>hk _ rfl
  ·have hl:¬(0:Int)<inp.length:=by simpa using w
   have hl':¬0<inp.length:=by omega
   rw [if_neg hl']
   simp only [if_neg hl'] at hk
   exact hk _ rfl
 have e13:¬x.Op=13:=by simpa using w
 rw [if_neg e13]
 simp only [if_neg e13] at hk
 refine WP.bif (fun w=>?_) (fun w=>?_)
 ·have e:x.Op=14:=by simpa using w
  rcases hx with h| h| h| h<;>try (exfalso;omega)
  rw [if_pos e]
  simp only [if_pos e] at hk
  exact WP.chk (by omega) fun _=>WP.chk h.2 fun _=>WP.chk (by simp only [List.length_cons,List.length_nil];omega) fun _=>hk _ rfl
 have e14:¬x.Op=14:=by simpa using w
 rw [if_neg e14]
 simp only [if_neg e14] at hk
 rcases hx with h| h| h| h<;>try (exfalso;omega)
 refine WP.chk h.2.2.2.1 fun _=>WP.chk h.2.2.2.2 fun _=>?_
 refine WP.call (apply02_sp x.Op _ _ (hr x.B) (hr x.C)).1 ?_
 rintro _ rfl
 refine WP.bif (fun w=>?_) (fun w=>?_)
 ·have hz:¬(applyV x.Op (r.at_ x.B) (r.at_ x.C)).2=true:=by simpa using w
  rw [if_neg hz]
  exact WP.ret rfl
 ·have hz:(applyV x.Op (r.at_ x.B) (r.at_ x.C)).2=true:=by simpa using w
  rw [if_pos hz]
  simp only [if_pos hz] at hk
  exact WP.chk h.2.2.1 fun _=>hk _ rfl
theorem plainF_rng (x:AInstr) (r:Arr8AValue) (inp:List Int) (tr:List AValue) (hx:PlainI x) (hr:regR r) (hi:∀z∈inp,wordR z):regR (plainF x r inp tr).1∧(∀z∈(plainF x r inp tr).2.1,wordR z)∧(plainF x r inp tr).2.1.length≤inp.length∧(plainF x r inp tr).2.2.1.length≤tr.length+1:=by
 have z0:valR ⟨0,0⟩:=⟨by unfold u64R;simp,by unfold u64R;simp⟩
 have zz:∀n,u64R n→valR ⟨n,0⟩:=fun n hn=>⟨hn,by unfold u64R;simp⟩
 have hsl:∀z∈sliceD inp 1 inp.length,wordR z:=fun z hz=>hi z (List.drop_subset _ _ (List.take_subset _ _ hz))
 have hsl2:(sliceD inp 1 inp.length).length≤inp.length:=by unfold sliceD;simp only [List.length_take,List.length_drop];omega
 unfold plainF
 split
 ·rename_i e
  rcases hx with h| h| h| h<;>try (exfalso;omega)
  exact ⟨hr.set (zz _ h.2.2) _,hi,Nat.le_refl _,by dsimp only;omega⟩
 split
 ·exact ⟨hr.set (hr _) _,hi,Nat.le_refl _,by dsimp only;omega⟩
 split
 ·exact ⟨hr.set (⟨(hr x.B).1,(hr x.C).1⟩:valR ⟨(r.at_ x.B).Lo,(r.at_ x.C).Lo⟩) _,hi,Nat.le_refl _,by dsimp only;omega⟩
 split
 ·exact ⟨hr.set (zz _ (hr _).2) _,hi,Nat.le_refl _,by dsimp only;omega⟩
 split
 ·split
  ·rename_i hl
   exact ⟨(hr.set z0 _).set (zz _ (hi _ (atD_mem ⟨by omega,by omega⟩))) _,hsl,hsl2,by dsimp only;omega⟩
  ·exact ⟨hr.set z0 _,hi,Nat.le_refl _,by dsimp only;omega⟩
 split
 ·exact ⟨hr,hi,Nat.le_refl _,by simp⟩
 split
 ·exact ⟨hr.set (apply02_sp x.Op _ _ (hr x.B) (hr x.C)).2 _,hi,Nat.le_refl _,by dsimp only;omega⟩
 ·exact ⟨hr,hi,Nat.le_refl _,by dsimp only;omega⟩
theorem WfI.plain {n i par:Int} {sl:List ASlot} {J:Int→Prop} {x:AInstr} (h:WfI n i par sl J x) (ho:x.Op≤14):PlainI x:=by
 cases h<;>simp only at ho<;>first| (exfalso;omega)| skip
 ·rename_i a w ha hw;exact .inl ⟨rfl,ha,hw⟩
 ·rename_i o a b ho' ha hb;exact .inr (.inl ⟨ho',ha,hb⟩)
 ·rename_i o a b c h1 h2 ha hb hc;exact .inr (.inr (.inl ⟨h1,h2,ha,hb,hc⟩))
 ·rename_i o a ho' ha;exact .inr (.inr (.inr ⟨ho',ha⟩))
structure ActP (p:AProgram) (a:R08activation):Prop where
 f:inN a.f p.Funcs.length
 at_:inN a.at_ (atD p.Funcs a.f).Code.length
 sl:a.slots.length=(atD p.Funcs a.f).Slots.length
 ar:a.args.length=8
 slv:∀c∈a.slots,valR c.v
 arv:∀c∈a.args,valR c.v
structure SrcP (p:AProgram) (m:R08machine) (A:List R08activation) (top:R08activation):Prop where
 prg:m.p=p
 acts:m.acts=A++[top]
 regs:regR m.regs
 all:∀a∈m.acts,ActP p a
 inc:(m.acts.map (·.f)).Pairwise (·<·)
 fst:(atD m.acts 0).f=0
 inp:∀z∈m.input,wordR z
 inl:m.input.length≤1000
 steps:0≤m.out.Steps∧m.out.Steps≤500
 tr:(m.out.Trace.length:Int)≤m.out.Steps
 run:m.done=false
def stepO (o:AOutcome):AOutcome:=⟨o.Kind,o.Code,o.Result,o.Trace,o.Steps+1⟩
def endO (o:AOutcome) (k:Int):AOutcome:=⟨k,o.Code,o.Result,o.Trace,o.Steps⟩
def nextAt (x:AInstr) (r:Arr8AValue) (k:Int):Int:=if x.Op=20 then x.A else if x.Op=21 then (if (r.at_ x.A).Lo=0 then k+1 else x.B) else k+1
noncomputable def memF (m:R08machine) (A:List R08activation) (t:R08activation) (x:AInstr):R08machine:=
 let c:=if x.Op=19 then atD (atD A ((A.length:Int)- 1)).args x.B else atD t.slots x.B
 if x.Op=16 then ⟨m.p,m.regs,A++[⟨t.f,t.at_,setD t.slots x.A ⟨truncV (m.regs.at_ x.B) (atD (atD m.p.Funcs t.f).Slots x.A).Size,true⟩,t.args⟩],m.input,m.deep,m.done,m.out⟩
 else if x.Op=18 then ⟨m.p,m.regs,A++[⟨t.f,t.at_,t.slots,setD t.args x.A ⟨m.regs.at_ x.B,true⟩⟩],m.input,m.deep,m.done,m.out⟩
 else if ¬c.ok=true then ⟨m.p,m.regs,A++[t],m.input,m.deep,true,endO m.out 3⟩
 else if x.Op=17 then ⟨m.p,m.regs,A++[⟨t.f,t.at_,setD t.slots x.A ⟨c.v,true⟩,t.args⟩],m.input,m.deep,m.done,m.out⟩
 else ⟨m.p,m.regs.set x.A c.v,A++[t],m.input,m.deep,m.done,m.out⟩
noncomputable def srcF (p:AProgram) (m:R08machine) (A:List R08activation) (top:R08activation) (x:AInstr):R08machine:=
 let t1:R08activation:=⟨top.f,nextAt x m.regs top.at_,top.slots,top.args⟩
 let m1:R08machine:=⟨p,m.regs,A++[t1],m.input,m.deep,m.done,stepO m.out⟩
 if x.Op=20∨x.Op=21 then m1
 else if x.Op=22 then ⟨p,m.regs,A++[t1]++[⟨x.A,0,repD ((atD p.Funcs x.A).Slots.length:Int),repD 8⟩],m.input,max m.deep ((A++[t1]++[(⟨x.A,0,repD ((atD p.Funcs x.A).Slots.length:Int),repD 8⟩:R08activation)]).length:Int),m.done,stepO m.out⟩
 else if x.Op=23 then (if A=[] then ⟨p,m.regs,A,m.input,m.deep,true,⟨0,m.out.Code,m.regs.e0,m.out.Trace,m.out.Steps+1⟩⟩ else ⟨p,m.regs,A,m.input,m.deep,m.done,stepO m.out⟩)
 else if x.Op=24 then ⟨p,m.regs,A++[t1],m.input,m.deep,true,⟨1,x.Imm,m.out.Result,m.out.Trace,m.out.Steps+1⟩⟩
 else if 15≤x.Op then memF m1 A t1 x
 else
  let r:=plainF x m.regs m.input m.out.Trace
  if r.2.2.2=true then ⟨p,r.1,A++[t1],r.2.1,m.deep,true,⟨2,m.out.Code,m.out.Result,r.2.2.1,m.out.Steps+1⟩⟩ else ⟨p,r.1,A++[t1],r.2.1,m.deep,m.done,⟨m.out.Kind,m.out.Code,m.out.Result,r.2.2.1,m.out.Steps+1⟩⟩
theorem read08_sp (m:R08machine) (c:R08cell):WP (r08_machine_read m c) (·=(c.v,if c.ok=true then m else ⟨m.p,m.regs,m.acts,m.input,m.deep,true,endO m.out 3⟩)):=by
 unfold r08_machine_read
 refine WP.bif (fun w=>?_) (fun w=>?_)
 ·have h:¬c.ok=true:=by simpa using w
  unfold r08_machine_end
  refine WP.call (WP.ret rfl) ?_
  rintro _ rfl
  exact WP.ret (by rw [if_neg h];rfl)
 ·have h:c.ok=true:=by simpa using w
  exact WP.ret (by rw [if_pos h])
theorem end08_sp (m:R08machine) (k:Int):WP (r08_machine_end m k) (·=⟨m.p,m.regs,m.acts,m.input,m.deep,true,endO m.out k⟩):=by
 unfold r08_machine_end
 exact WP.ret rfl
theorem SrcP.few {p:AProgram} {m:R08machine} {A:List R08activation} {top:R08activation} (h:SrcP p m A top) (hp:WfP p):A.length+1≤80:=by
 have h1:=List.pairwise_iff_getElem.1 h.inc
 have hl:(m.acts.map (·.f)).length=A.length+1:=by rw [List.length_map,h.acts];simp
 have key:∀k:Nat,(hk:k<(m.acts.map (·.f)).length)→(k:Int)≤(m.acts.map (·.f))[k]:=fun k=>by
  induction k with
  | zero=>
    intro hk
    have:(m.acts.map (·.f))[0]∈m.acts.map (·.f):=List.getElem_mem _
    obtain ⟨a,ha,e⟩:=List.mem_map.1 this
    rw [←e];exact (h.all a ha).f.1
  | succ k ih=>
    intro hk
    have:=ih (by omega)
    have:=h1 k (k+1) (by omega) hk (by omega)
    omega
 have h2:=key A.length (by omega)
 have h3:(m.acts.map (·.f))[A.length]'(by omega)∈m.acts.map (·.f):=List.getElem_mem _
 obtain ⟨a,ha,e⟩:=List.mem_map.1 h3
 have h4:=(h.all a ha).f.2
 have h5:=hp.len.2
 rw [←e] at h2
 omega
theorem SrcP.topP {p:AProgram} {m:R08machine} {A:List R08activation} {top:R08activation} (h:SrcP p m A top):ActP p top:=h.all _ (by rw [h.acts];exact List.mem_append_right _ List.mem_cons_self)
theorem mem08_sp (m:R08machine) (A:List R08activation) (t:R08activation) (x:AInstr) {n i par:Int} {sl:List ASlot} {J:Int→Prop} (hx:WfI n i par sl J x) (hacts:m.acts=A++[t]) (hA:A.length≤1000) (hf:inN t.f m.p.Funcs.length) (hsl:(atD m.p.Funcs t.f).Slots=sl) (hs:t.slots.length=sl.length) (hs6:sl.length≤1000) (hrs:∀s∈sl,rightS s) (har:t.args.length=8) (hr:regR m.regs) (hdn:m.done=false)
 (h19:x.Op=19→1≤A.length∧(atD A ((A.length:Int)- 1)).args.length=8∧0≤x.B∧x.B<8):
 WP (r08_machine_memory m x) (·=if 15≤x.Op∧x.Op≤19 then (true,memF m A t x) else (false,m)):=by
 obtain ⟨s1,s2,s3,s4⟩:=snoc26 A t
 have hlen:(m.acts.length:Int)- 1=(A.length:Int):=by rw [hacts];exact s1
 have hll:(m.acts.length:Int)=(A.length:Int)+1:=by omega
 unfold r08_machine_memory
 rw [hlen]
 have htop:atD m.acts (A.length:Int)=t:=by rw [hacts];exact s2
 rw [htop]
 refine WP.chk ⟨by omega,by omega⟩ fun _=>WP.chk ⟨by omega,by omega⟩ fun _=>WP.chk hf fun _=>?_
 refine WP.join (fun j=>j.1.acts=m.acts∧(true,(⟨j.1.p,j.1.regs,A++[⟨t.f,t.at_,j.2.1,j.2.2⟩],j.1.input,j.1.deep,j.1.done,j.1.out⟩:R08machine))=if 15≤x.Op∧x.Op≤19 then (true,memF m A t x) else (false,m)) ?_ fun k hk=>?_
 ·rintro ⟨m2,sl2,ar2⟩ ⟨q1,q2⟩
  dsimp only at q1 q2 ⊢
  refine WP.chk (by rw [q1];omega) fun _=>WP.chk ⟨by omega,by rw [q1];omega⟩ fun _=>WP.ret ?_
  rw [←q2,q1,hacts,s4]
 cases hx with
 | load a s ha hs'=>
   refine WP.bif (fun _=>?_) (fun w=>by simp at w)
   refine WP.chk ⟨hs'.1,by rw [hs];exact hs'.2⟩ fun _=>?_
   refine WP.call (read08_sp _ _) ?_
   rintro _ rfl
   dsimp only
   by_cases hok:(atD t.slots s).ok=true
   ·rw [if_pos hok]
    refine WP.bif (fun _=>?_) (fun w=>by simp [hdn] at w)
    refine WP.chk ha fun _=>hk _ ⟨rfl,?_⟩
    simp [memF,hok]
   ·rw [if_neg hok]
    refine WP.bif (fun w=>by simp at w) (fun _=>hk _ ⟨rfl,?_⟩)
    simp [memF,hok]
 | store s a hs' ha=>
   refine WP.bif (fun w=>by simp at w) (fun _=>?_)
   refine WP.bif (fun _=>?_) (fun w=>by simp at w)
   have hsz:sizeR (atD sl s).Size:=(hrs _ (atD_mem hs')).1
   refine WP.chk (by omega) fun _=>WP.chk ha fun _=>WP.chk ⟨hs'.1,by rw [hsl];exact hs'.2⟩ fun _=>?_
   refine WP.call (trunc02_sp _ _ (hr a) (by rw [hsl];exact hsz)) ?_
   rintro _ rfl
   refine WP.chk ⟨hs'.1,by rw [hs];exact hs'.2⟩ fun _=>hk _ ⟨rfl,?_⟩
   simp [memF]
 | move s s' hs' ht he=>
   refine WP.bif (fun w=>by simp at w) (fun _=>?_)
   refine WP.bif (fun w=>by simp at w) (fun _=>?_)
   refine WP.bif (fun _=>?_) (fun w=>by simp at w)
   refine WP.chk ⟨ht.1,by rw [hs];exact ht.2⟩ fun _=>?_
   refine WP.call (read08_sp _ _) ?_
   rintro _ rfl
   dsimp only
   by_cases hok:(atD t.slots s').ok=true
   ·rw [if_pos hok]
    refine WP.bif (fun _=>?_) (fun w=>by simp [hdn] at w)
    refine WP.chk (by omega) fun _=>WP.chk ⟨hs'.1,by rw [hs];exact hs'.2⟩ fun _=>hk _ ⟨rfl,?_⟩
    simp [memF,hok]
   ·rw [if_neg hok]
    refine WP.bif (fun w=>by simp at w) (fun _=>hk _ ⟨rfl,?_⟩)
    simp [memF,hok]
 | arg a r ha hr'=>
   refine WP.bif (fun w=>by simp at w) (fun _=>?_)
   refine WP.bif (fun w=>by simp at w) (fun _=>?_)
   refine WP.bif (fun w=>by simp at w) (fun _=>?_)
   refine WP.bif (fun _=>?_) (fun w=>by simp at w)
   refine WP.chk (by omega) fun _=>WP.chk hr' fun _=>WP.chk ⟨ha.1,by have:=ha.2;dsimp only;omega⟩ fun _=>hk _ ⟨rfl,?_⟩
   simp [memF]
 | param a k' ha hk'=>
   obtain ⟨p1,p2,p3,p4⟩:=h19 rfl
   refine WP.bif (fun w=>by simp at w) (fun _=>?_)
   refine WP.bif (fun w=>by simp at w) (fun _=>?_)
   refine WP.bif (fun w=>by simp at w) (fun _=>?_)
   refine WP.bif (fun w=>by simp at w) (fun _=>?_)
   refine WP.bif (fun _=>?_) (fun w=>by simp at w)
   have hprev:atD m.acts ((A.length:Int)- 1)=atD A ((A.length:Int)- 1):=by rw [hacts];exact atD_append_left (by omega)
   rw [hprev]
   refine WP.chk ⟨by omega,by omega⟩ fun _=>WP.chk ⟨by omega,by omega⟩ fun _=>WP.chk ⟨p3,by rw [p2];exact p4⟩ fun _=>?_
   refine WP.call (read08_sp _ _) ?_
   rintro _ rfl
   dsimp only
   by_cases hok:(atD (atD A ((A.length:Int)- 1)).args k').ok=true
   ·rw [if_pos hok]
    refine WP.bif (fun _=>?_) (fun w=>by simp [hdn] at w)
    refine WP.chk ha fun _=>hk _ ⟨rfl,?_⟩
    simp [memF,hok]
   ·rw [if_neg hok]
    refine WP.bif (fun w=>by simp at w) (fun _=>hk _ ⟨rfl,?_⟩)
    simp [memF,hok]
 | const a w ha hw=>exact WP.bif (fun w=>by simp at w) fun _=>WP.bif (fun w=>by simp at w) fun _=>WP.bif (fun w=>by simp at w) fun _=>WP.bif (fun w=>by simp at w) fun _=>WP.bif (fun w=>by simp at w) fun _=>WP.ret (by simp)
 | copy o a b ho ha hb=>rcases ho with rfl| rfl<;>exact WP.bif (fun w=>by simp at w) fun _=>WP.bif (fun w=>by simp at w) fun _=>WP.bif (fun w=>by simp at w) fun _=>WP.bif (fun w=>by simp at w) fun _=>WP.bif (fun w=>by simp at w) fun _=>WP.ret (by simp)
 | io o a ho ha=>rcases ho with rfl| rfl<;>exact WP.bif (fun w=>by simp at w) fun _=>WP.bif (fun w=>by simp at w) fun _=>WP.bif (fun w=>by simp at w) fun _=>WP.bif (fun w=>by simp at w) fun _=>WP.bif (fun w=>by simp at w) fun _=>WP.ret (by simp)
 | arith o a b c h1 h2 ha hb hc=>exact WP.bif (fun w=>by simp at w;omega) fun _=>WP.bif (fun w=>by simp at w;omega) fun _=>WP.bif (fun w=>by simp at w;omega) fun _=>WP.bif (fun w=>by simp at w;omega) fun _=>WP.bif (fun w=>by simp at w;omega) fun _=>WP.ret (by rw [if_neg (by dsimp only;omega)])
 | jump t' ht=>exact WP.bif (fun w=>by simp at w) fun _=>WP.bif (fun w=>by simp at w) fun _=>WP.bif (fun w=>by simp at w) fun _=>WP.bif (fun w=>by simp at w) fun _=>WP.bif (fun w=>by simp at w) fun _=>WP.ret (by simp)
 | branch a t' ha ht=>exact WP.bif (fun w=>by simp at w) fun _=>WP.bif (fun w=>by simp at w) fun _=>WP.bif (fun w=>by simp at w) fun _=>WP.bif (fun w=>by simp at w) fun _=>WP.bif (fun w=>by simp at w) fun _=>WP.ret (by simp)
 | call f h1 h2=>exact WP.bif (fun w=>by simp at w) fun _=>WP.bif (fun w=>by simp at w) fun _=>WP.bif (fun w=>by simp at w) fun _=>WP.bif (fun w=>by simp at w) fun _=>WP.bif (fun w=>by simp at w) fun _=>WP.ret (by simp)
 | ret=>exact WP.bif (fun w=>by simp at w) fun _=>WP.bif (fun w=>by simp at w) fun _=>WP.bif (fun w=>by simp at w) fun _=>WP.bif (fun w=>by simp at w) fun _=>WP.bif (fun w=>by simp at w) fun _=>WP.ret (by simp)
 | trap w hw=>exact WP.bif (fun w=>by simp at w) fun _=>WP.bif (fun w=>by simp at w) fun _=>WP.bif (fun w=>by simp at w) fun _=>WP.bif (fun w=>by simp at w) fun _=>WP.bif (fun w=>by simp at w) fun _=>WP.ret (by simp)
theorem WfP.instrAt {p:AProgram} (hp:WfP p) {i k:Int} (hi:inN i p.Funcs.length) (hk:inN k (atD p.Funcs i).Code.length):WfI p.Funcs.length i (atD p.Funcs i).Params (atD p.Funcs i).Slots (fun t=>inN t (atD p.Funcs i).Code.length) (atD (atD p.Funcs i).Code k):=(hp.func i hi.1 hi.2).at_ hk
theorem enter08_sp (m:R08machine) (f:Int) (hf:inN f m.p.Funcs.length) (hs:(atD m.p.Funcs f).Slots.length≤1000) (ha:m.acts.length≤1000):
 WP (r08_machine_enter m f) (·=⟨m.p,m.regs,m.acts++[⟨f,0,repD ((atD m.p.Funcs f).Slots.length:Int),repD 8⟩],m.input,max m.deep ((m.acts++[(⟨f,0,repD ((atD m.p.Funcs f).Slots.length:Int),repD 8⟩:R08activation)]).length:Int),m.done,m.out⟩):=by
 unfold r08_machine_enter
 exact WP.chk (by omega) fun _=>WP.chk hf fun _=>WP.chk ⟨by omega,by omega⟩ fun _=>WP.chk ⟨by omega,by omega⟩ fun _=>WP.chk (by simp only [List.length_cons,List.length_nil];omega) fun _=>WP.ret rfl
theorem src_step {p:AProgram} (hp:WfP p) {m:R08machine} {A:List R08activation} {top:R08activation} (h:SrcP p m A top):WP (r08_machine_step m) (·=srcF p m A top (atD (atD p.Funcs top.f).Code top.at_)):=by
 have hfew:=h.few hp
 have hT:=h.topP
 have wF:=hp.func _ hT.f.1 hT.f.2
 have wI:=hp.instrAt hT.f hT.at_
 obtain ⟨s1,s2,s3,s4⟩:=snoc26 A top
 have hlen:(m.acts.length:Int)- 1=(A.length:Int):=by rw [h.acts];exact s1
 have hll:m.acts.length=A.length+1:=by rw [h.acts];simp
 have htop:atD m.acts (A.length:Int)=top:=by rw [h.acts];exact s2
 have hset:∀x,setD m.acts (A.length:Int) x=A++[x]:=fun x=>by rw [h.acts];exact s4 x
 have hf:=hT.f
 have hat:=hT.at_
 have hcode:=wF.code
 have hst:=h.steps
 obtain ⟨x,hx⟩:∃x,x=atD (atD p.Funcs top.f).Code top.at_:=⟨_,rfl⟩
 unfold r08_machine_step
 rw [hlen,htop,h.prg]
 simp only [hset]
 rw [←hx] at wI ⊢
 refine WP.chk ⟨by omega,by omega⟩ fun _=>WP.chk (by omega) fun _=>WP.chk ⟨by omega,by omega⟩ fun _=>WP.chk hf fun _=>WP.chk hat fun _=>WP.chk ⟨by omega,by omega⟩ fun _=>WP.chk ⟨by have:=hat.1;omega,by have:=hat.2;omega⟩ fun _=>?_
 refine WP.join (fun at1=>at1=nextAt x m.regs top.at_) ?_ fun k hk=>?_
 rotate_left
 ·unfold nextAt at hk
  refine WP.bif (fun w=>?_) (fun w=>?_)
  ·have e:x.Op=20:=by simpa using w
   exact hk _ (by rw [if_pos e])
  have e:¬x.Op=20:=by simpa using w
  simp only [if_neg e] at hk
  refine WP.bif (fun w=>?_) (fun w=>?_)
  ·have e1:x.Op=21:=by simpa using w
   simp only [if_pos e1] at hk
   have hA:reg x.A:=by cases wI<;>simp only at e1<;>first| (exfalso;omega)| assumption
   refine WP.chk hA fun _=>?_
   refine WP.bif (fun w=>?_) (fun w=>?_)
   ·have e2:¬(m.regs.at_ x.A).Lo=0:=by simpa using w
    exact hk _ (by rw [if_neg e2])
   ·have e2:(m.regs.at_ x.A).Lo=0:=by simpa using w
    exact hk _ (by rw [if_pos e2])
  ·have e1:¬x.Op=21:=by simpa using w
   exact hk _ (by rw [if_neg e1])
 rintro _ rfl
 refine WP.chk ⟨by omega,by omega⟩ fun _=>?_
 refine WP.join (fun b:Bool=>b=decide (x.Op=20∨x.Op=21)) ?_ fun k hk=>?_
 rotate_left
 ·refine WP.bif (fun w=>?_) (fun w=>?_)
  ·have e:x.Op=20:=by simpa using w
   exact hk _ (by simp [e])
  ·have e:¬x.Op=20:=by simpa using w
   exact hk _ (by simp [e])
 rintro _ rfl
 unfold srcF
 refine WP.bif (fun w=>?_) (fun w=>?_)
 ·have e:x.Op=20∨x.Op=21:=by simpa using w
  exact WP.ret (by rw [if_pos e];rfl)
 have e20:¬(x.Op=20∨x.Op=21):=by simpa using w
 rw [if_neg e20]
 refine WP.bif (fun w=>?_) (fun w=>?_)
 ·have e:x.Op=22:=by simpa using w
  have hA:top.f<x.A∧x.A<p.Funcs.length:=by
   cases wI<;>simp only at e<;>first| (exfalso;omega)| exact ⟨by assumption,by assumption⟩
  have wFA:=hp.func x.A (by have:=hf.1;omega) hA.2
  have h6:=wFA.slots
  refine WP.call (enter08_sp _ x.A ⟨by have:=hf.1;omega,hA.2⟩ (by dsimp only;omega) (by simp;omega)) ?_
  rintro _ rfl
  exact WP.ret (by rw [if_pos e];rfl)
 have e22:¬x.Op=22:=by simpa using w
 rw [if_neg e22]
 refine WP.bif (fun w=>?_) (fun w=>?_)
 ·have e:x.Op=23:=by simpa using w
  rw [if_pos e]
  obtain ⟨_,_,s3',_⟩:=snoc26 A (⟨top.f,nextAt x m.regs top.at_,top.slots,top.args⟩:R08activation)
  rw [s3']
  refine WP.chk ⟨by omega,by omega,by simp;omega⟩ fun _=>WP.chk (by omega) fun _=>?_
  refine WP.bif (fun w0=>?_) (fun w0=>?_)
  ·have hA0:A=[]:=by
    have:(A.length:Int)=0:=by simpa using w0
    exact List.length_eq_zero_iff.1 (by omega)
   rw [if_pos hA0]
   refine WP.call (end08_sp _ _) ?_
   rintro _ rfl
   exact WP.ret rfl
  ·have hA0:¬A=[]:=by
    have:¬(A.length:Int)=0:=by simpa using w0
    intro h0;rw [h0] at this;exact this rfl
   rw [if_neg hA0]
   exact WP.ret rfl
 have e23:¬x.Op=23:=by simpa using w
 rw [if_neg e23]
 refine WP.bif (fun w=>?_) (fun w=>?_)
 ·have e:x.Op=24:=by simpa using w
  rw [if_pos e]
  refine WP.call (end08_sp _ _) ?_
  rintro _ rfl
  exact WP.ret rfl
 have e24:¬x.Op=24:=by simpa using w
 rw [if_neg e24]
 refine WP.call (mem08_sp _ A (⟨top.f,nextAt x m.regs top.at_,top.slots,top.args⟩:R08activation) x wI rfl (by omega) hf rfl hT.sl (by have:=wF.slots;omega) wF.rightS hT.ar h.regs h.run ?_) ?_
 ·intro e
  have hk:inN x.B (atD p.Funcs top.f).Params:=by
   cases wI<;>simp only at e<;>first| (exfalso;omega)| assumption
  have h3:=hp.par _ (atD_mem hf)
  have hA1:1≤A.length:=by
   refine Nat.one_le_iff_ne_zero.2 fun h0=>?_
   have hA0:A=[]:=List.length_eq_zero_iff.1 h0
   have h4:=h.fst
   rw [h.acts,hA0] at h4
   have h5:top.f=0:=h4
   rw [h5,hp.entry] at hk
   have:=hk.1;have:=hk.2;omega
  have hm:atD A ((A.length:Int)- 1)∈m.acts:=by rw [h.acts];exact List.mem_append_left _ (atD_mem ⟨by omega,by omega⟩)
  exact ⟨hA1,(h.all _ hm).ar,hk.1,by have:=hk.2;omega⟩
 rintro _ rfl
 by_cases e15:15≤x.Op
 ·have hle:15≤x.Op∧x.Op≤19:=by
   refine ⟨e15,?_⟩
   clear hx
   cases wI<;>(dsimp only at e20 e22 e23 e24 e15 ⊢;omega)
  rw [if_pos hle,if_pos e15]
  refine WP.bif (fun _=>WP.ret rfl) (fun w=>by simp at w)
 ·rw [if_neg (fun hh=>e15 hh.1),if_neg e15]
  refine WP.bif (fun w=>by simp at w) (fun _=>?_)
  have hpl:=wI.plain (by omega)
  refine WP.call (plain08_sp x _ _ _ hpl h.regs h.inl (by have:=h.tr;dsimp only;omega)) ?_
  rintro _ rfl
  dsimp only
  by_cases hz:(plainF x m.regs m.input m.out.Trace).2.2.2=true
  ·rw [if_pos hz]
   refine WP.bif (fun _=>?_) (fun w=>by rw [hz] at w;cases w)
   refine WP.call (end08_sp _ _) ?_
   rintro _ rfl
   exact WP.ret rfl
  ·rw [if_neg hz]
   refine WP.bif (fun w=>absurd w hz) (fun _=>WP.ret rfl)
structure StkP (s:AStack):Prop where
 len:s.Bytes.length=s.Used.length
 most:s.Bytes.length≤100000
 sp:0≤s.SP∧s.SP≤s.Bytes.length
 by_:bytesR s.Bytes
def RgtS (s:AStack) (off n:Int):Prop:=sizeR n∧0≤off∧s.SP+off+n≤s.Bytes.length
theorem right09_sp (s:AStack) (off n:Int) (hs:StkP s) (hn:0≤n∧n≤100000) (h:RgtS s off n):WP (r09_right s off n) (·=true):=by
 obtain ⟨h1,h2,h3⟩:=h
 have:=hs.sp
 have:=hs.most
 unfold r09_right
 refine WP.call (size02_sp n) ?_
 rintro _ rfl
 refine WP.bif (fun _=>?_) (fun w=>by simp [h1] at w)
 refine WP.bif (fun _=>?_) (fun w=>by simp at w;omega)
 exact WP.chk ⟨by omega,by omega⟩ fun _=>WP.chk ⟨by omega,by omega⟩ fun _=>WP.ret (by simp;omega)
def UsedS (s:AStack) (off n:Int):Prop:=∀k:Int,0≤k→k<n→atD s.Used (s.SP+off+k)=true
theorem used09_sp (s:AStack) (off n:Int) (hs:StkP s) (h:RgtS s off n):WP (r09_used s off n) fun r=>r=true↔UsedS s off n:=by
 obtain ⟨h1,h2,h3⟩:=h
 have hsp:=hs.sp
 have:=hs.most
 have hl:=hs.len
 unfold r09_used
 refine WP.loop (fun k=>0≤k∧∀j:Int,0≤j→j<k→atD s.Used (s.SP+off+j)=true) (fun k=>(n- k).toNat) ⟨by omega,fun j a b=>by omega⟩ ?_
 rintro again k ⟨a1,a2⟩ ih
 refine WP.bif (fun w=>?_) (fun w=>?_)
 ·have hk:k<n:=by simpa using w
  refine WP.chk ⟨by omega,by omega⟩ fun _=>WP.chk ⟨by omega,by omega⟩ fun _=>WP.chk ⟨by omega,by omega⟩ fun _=>?_
  refine WP.bif (fun w2=>?_) (fun w2=>?_)
  ·have hu:atD s.Used (s.SP+off+k)=false:=by simpa using w2
   exact WP.ret ⟨fun h=>(by cases h),fun h=>(by have:=h k a1 hk;rw [hu] at this;cases this)⟩
  ·have hu:atD s.Used (s.SP+off+k)=true:=by simpa using w2
   refine WP.chk ⟨by omega,by omega⟩ fun _=>ih _ ⟨by omega,fun j b1 b2=>?_⟩ (by omega)
   by_cases hj:j=k
   ·rw [hj];exact hu
   ·exact a2 j b1 (by omega)
 ·have hk:¬k<n:=by simpa using w
  exact WP.ret ⟨fun _ j b1 b2=>a2 j b1 (by omega),fun _=>rfl⟩
def cutS (s:AStack) (off n:Int):List Int:=sliceD s.Bytes (s.SP+off) (s.SP+off+n)
theorem cutS_length {s:AStack} {off n:Int} (hs:StkP s) (h:RgtS s off n):((cutS s off n).length:Int)=n:=by
 obtain ⟨h1,h2,h3⟩:=h
 have:=hs.sp
 unfold cutS sliceD
 simp only [List.length_take,List.length_drop]
 unfold sizeR at h1
 omega
theorem cutS_at {s:AStack} {off n:Int} (hs:StkP s) (h:RgtS s off n) {k:Int} (hk:0≤k∧k<n):atD (cutS s off n) k=atD s.Bytes (s.SP+off+k):=by
 obtain ⟨h1,h2,h3⟩:=h
 have:=hs.sp
 unfold cutS sliceD atD
 rw [List.getD_eq_getElem?_getD,List.getD_eq_getElem?_getD,List.getElem?_take_of_lt (by omega),List.getElem?_drop]
 congr 2
 omega
theorem load09_sp (s:AStack) (off n:Int) (hs:StkP s) (h:RgtS s off n):WP (r09_Load s off n) fun r=>r.2.2=0∧(r.2.1=true↔UsedS s off n)∧(r.2.1=true→r.1=fromB (cutS s off n)):=by
 have hsz:1≤n∧n≤16:=by have:=h.1;unfold sizeR at this;omega
 have hsp:=hs.sp
 have hm:=hs.most
 have h2:=h.2.1
 have h3:=h.2.2
 unfold r09_Load
 refine WP.call (right09_sp s off n hs ⟨by omega,by omega⟩ h) ?_
 rintro _ rfl
 refine WP.bif (fun w=>by simp at w) (fun _=>?_)
 refine WP.call (used09_sp s off n hs h) fun u hu=>?_
 refine WP.bif (fun w=>?_) (fun w=>?_)
 ·have:u=false:=by simpa using w
  subst this
  exact WP.ret ⟨rfl,hu,fun h=>(by cases h)⟩
 ·have:u=true:=by simpa using w
  subst this
  refine WP.chk ⟨by omega,by omega⟩ fun _=>WP.chk ⟨by omega,by omega⟩ fun _=>WP.chk ⟨by omega,by omega⟩ fun _=>WP.chk ⟨by omega,by omega,by omega⟩ fun _=>?_
  refine WP.call (from02_sp (cutS s off n) (fun z hz=>hs.by_ z (List.drop_subset _ _ (List.take_subset _ _ hz))) (by have:=cutS_length hs h;omega)) ?_
  rintro _ rfl
  exact WP.ret ⟨rfl,hu,fun _=>rfl⟩
structure StoreP (s s':AStack) (off n:Int) (v:AValue):Prop where
 sp:s'.SP=s.SP
 bl:s'.Bytes.length=s.Bytes.length
 ul:s'.Used.length=s.Used.length
 byt:∀k:Int,0≤k→atD s'.Bytes k=if s.SP+off≤k∧k<s.SP+off+n then byteV v (k- (s.SP+off)) else atD s.Bytes k
 usd:∀k:Int,0≤k→atD s'.Used k=if s.SP+off≤k∧k<s.SP+off+n then true else atD s.Used k
theorem StoreP.stk {s s':AStack} {off n:Int} {v:AValue} (h:StoreP s s' off n v) (hs:StkP s):StkP s':=by
 refine ⟨by rw [h.bl,h.ul,hs.len],by rw [h.bl];exact hs.most,by rw [h.sp,h.bl];exact hs.sp,fun z hz=>?_⟩
 obtain ⟨k,k1,k2,rfl⟩:=mem_atD hz
 rw [h.byt k k1]
 split
 ·exact byteV_rng _ _
 ·exact hs.by_ _ (atD_mem ⟨k1,by rw [←h.bl];exact k2⟩)
theorem store09_sp (s:AStack) (off n:Int) (v:AValue) (hs:StkP s) (h:RgtS s off n) (hv:valR v):WP (r09_Store s off n v) fun r=>r.2=0∧StoreP s r.1 off n v:=by
 have hsz:1≤n∧n≤16:=by have:=h.1;unfold sizeR at this;omega
 have hsp:=hs.sp
 have hm:=hs.most
 have hl:=hs.len
 have h2:=h.2.1
 have h3:=h.2.2
 unfold r09_Store
 refine WP.call (right09_sp s off n hs ⟨by omega,by omega⟩ h) ?_
 rintro _ rfl
 refine WP.bif (fun w=>by simp at w) (fun _=>?_)
 unfold r09_Copy
 refine WP.call (R:=fun r=>r=s) (WP.chk (by omega) fun _=>WP.chk (by omega) fun _=>WP.ret rfl) ?_
 intro cp hcp
 rw [hcp]
 clear hcp
 refine WP.call (bytes02_sp v n hv h.1) ?_
 rintro _ rfl
 refine WP.loop (fun j=>0≤j.1∧j.1≤n∧j.2.1.length=s.Bytes.length∧j.2.2.length=s.Used.length∧(∀k:Int,0≤k→atD j.2.1 k=if s.SP+off≤k∧k<s.SP+off+j.1 then byteV v (k- (s.SP+off)) else atD s.Bytes k)∧∀k:Int,0≤k→atD j.2.2 k=if s.SP+off≤k∧k<s.SP+off+j.1 then true else atD s.Used k) (fun j=>(n- j.1).toNat)
  ⟨Int.le_refl _,by dsimp only;omega,rfl,rfl,fun k _=>by dsimp only;rw [if_neg (by omega)],fun k _=>by dsimp only;rw [if_neg (by omega)]⟩ ?_
 rintro again ⟨i,b,u⟩ ⟨a1,a2,a3,a4,a5,a6⟩ ih
 dsimp only at a1 a2 a3 a4 a5 a6 ⊢
 refine WP.bif (fun w=>?_) (fun w=>?_)
 ·have hi:i<n:=by simpa using w
  rw [bytesV_at v ⟨a1,hi⟩]
  refine WP.chk ⟨by omega,by omega⟩ fun _=>WP.chk ⟨by omega,by omega⟩ fun _=>WP.chk ⟨by omega,by omega⟩ fun _=>WP.chk ⟨by omega,by omega⟩ fun _=>WP.chk ⟨a1,by rw [bytesV_length];omega⟩ fun _=>WP.chk ⟨by omega,by omega⟩ fun _=>WP.chk ⟨by omega,by omega⟩ fun _=>WP.chk ⟨by omega,by omega⟩ fun _=>?_
  refine ih _ ⟨by dsimp only;omega,by dsimp only;omega,by dsimp only;rw [length_setD];exact a3,by dsimp only;rw [length_setD];exact a4,fun k hk=>?_,fun k hk=>?_⟩ (by dsimp only;omega)
  ·dsimp only
   rw [atD_setD ⟨by omega,by omega⟩ hk,a5 k hk]
   by_cases e:k=s.SP+off+i
   ·rw [if_pos e,if_pos (by omega)];congr 1;omega
   ·rw [if_neg e]
    by_cases e2:s.SP+off≤k∧k<s.SP+off+i
    ·rw [if_pos e2,if_pos (by omega)]
    ·rw [if_neg e2,if_neg (by omega)]
  ·dsimp only
   rw [atD_setD ⟨by omega,by omega⟩ hk,a6 k hk]
   by_cases e:k=s.SP+off+i
   ·rw [if_pos e,if_pos (by omega)]
   ·rw [if_neg e]
    by_cases e2:s.SP+off≤k∧k<s.SP+off+i
    ·rw [if_pos e2,if_pos (by omega)]
    ·rw [if_neg e2,if_neg (by omega)]
 ·have hi:i=n:=by have:¬i<n:=by simpa using w
                  omega
  subst hi
  exact WP.ret ⟨rfl,rfl,a3,a4,a5,a6⟩
theorem move09_sp (s:AStack) (to fr n:Int) (hs:StkP s) (h1:RgtS s to n) (h2:RgtS s fr n):WP (r09_Move s to fr n) fun r=>r.2.2=0∧(r.2.1=true↔UsedS s fr n)∧(r.2.1=true→StoreP s r.1 to n (fromB (cutS s fr n)))∧(r.2.1=false→r.1=s):=by
 have hsz:1≤n∧n≤16:=by have:=h1.1;unfold sizeR at this;omega
 have hb:bytesR (cutS s fr n):=fun z hz=>hs.by_ z (List.drop_subset _ _ (List.take_subset _ _ hz))
 have hw:∀i:Int,0≤i→u64R (wordB (cutS s fr n) i 8):=fun i hi=>by
  have:=wordB_lt hb hi 8 (by omega)
  have p64:(2:Int) ^ (8*8)=18446744073709551616:=by decide
  unfold u64R;omega
 unfold r09_Move
 refine WP.call (right09_sp s to n hs ⟨by omega,by omega⟩ h1) ?_
 rintro _ rfl
 refine WP.bif (fun w=>by simp at w) (fun _=>?_)
 refine WP.call (right09_sp s fr n hs ⟨by omega,by omega⟩ h2) ?_
 rintro _ rfl
 refine WP.bif (fun w=>by simp at w) (fun _=>?_)
 refine WP.call (load09_sp s fr n hs h2) fun r ⟨q1,q2,q3⟩=>?_
 refine WP.bif (fun w=>?_) (fun w=>?_)
 ·have e:r.2.1=false:=by simpa using w
  exact WP.ret ⟨rfl,by rw [←q2,e],fun h=>(by cases h),fun _=>rfl⟩
 ·have e:r.2.1=true:=by simpa using w
  rw [q3 e]
  refine WP.call (store09_sp s to n _ hs h1 ⟨hw 0 (by omega),hw 8 (by omega)⟩) fun r' ⟨z1,z2⟩=>WP.ret ⟨rfl,⟨fun _=>q2.1 e,fun _=>rfl⟩,fun _=>z2,fun h=>(by cases h)⟩
structure PushP (s s':AStack) (n:Int):Prop where
 sp:s'.SP=s.SP- n
 byt:s'.Bytes=s.Bytes
 ul:s'.Used.length=s.Used.length
 usd:∀k:Int,0≤k→atD s'.Used k=if s.SP- n≤k∧k<s.SP then false else atD s.Used k
theorem PushP.stk {s s':AStack} {n:Int} (h:PushP s s' n) (hs:StkP s) (hn:0≤n∧n≤s.SP):StkP s':=by
 have:=hs.sp
 exact ⟨by rw [h.byt,h.ul,hs.len],by rw [h.byt];exact hs.most,by rw [h.sp,h.byt];omega,by rw [h.byt];exact hs.by_⟩
theorem push09_sp (s:AStack) (n:Int) (hs:StkP s) (hn:0≤n∧n≤s.SP):WP (r09_Push s n) fun r=>r.2=0∧PushP s r.1 n:=by
 have hsp:=hs.sp
 have hm:=hs.most
 have hl:=hs.len
 unfold r09_Push
 refine WP.bif (fun w=>by simp at w;omega) (fun _=>?_)
 refine WP.bif (fun w=>by simp at w;omega) (fun _=>?_)
 unfold r09_Copy
 refine WP.call (R:=fun r=>r=s) (WP.chk (by omega) fun _=>WP.chk (by omega) fun _=>WP.ret rfl) ?_
 intro cp hcp
 rw [hcp]
 clear hcp
 refine WP.chk ⟨by omega,by omega⟩ fun _=>?_
 refine WP.loop (fun j=>s.SP- n≤j.1∧j.1≤s.SP∧j.2.length=s.Used.length∧∀k:Int,0≤k→atD j.2 k=if s.SP- n≤k∧k<j.1 then false else atD s.Used k) (fun j=>(s.SP- j.1).toNat)
  ⟨Int.le_refl _,by dsimp only;omega,rfl,fun k _=>by dsimp only;rw [if_neg (by omega)]⟩ ?_
 rintro again ⟨i,u⟩ ⟨a1,a2,a3,a4⟩ ih
 dsimp only at a1 a2 a3 a4 ⊢
 refine WP.bif (fun w=>?_) (fun w=>?_)
 ·have hi:i<s.SP:=by simpa using w
  refine WP.chk ⟨by omega,by omega⟩ fun _=>WP.chk ⟨by omega,by omega⟩ fun _=>?_
  refine ih _ ⟨by dsimp only;omega,by dsimp only;omega,by dsimp only;rw [length_setD];exact a3,fun k hk=>?_⟩ (by dsimp only;omega)
  dsimp only
  rw [atD_setD ⟨by omega,by omega⟩ hk,a4 k hk]
  by_cases e:k=i
  ·rw [if_pos e,if_pos (by omega)]
  ·rw [if_neg e]
   by_cases e2:s.SP- n≤k∧k<i
   ·rw [if_pos e2,if_pos (by omega)]
   ·rw [if_neg e2,if_neg (by omega)]
 ·have hi:i=s.SP:=by have:¬i<s.SP:=by simpa using w
                     omega
  exact WP.ret ⟨rfl,rfl,rfl,a3,by rw [hi] at a4;exact a4⟩
theorem pop09_sp (s:AStack) (n:Int) (hs:StkP s) (hn:0≤n∧s.SP+n≤s.Bytes.length):WP (r09_Pop s n) (·=(⟨s.Bytes,s.Used,s.SP+n⟩,0)):=by
 have hsp:=hs.sp
 have hm:=hs.most
 unfold r09_Pop
 refine WP.bif (fun w=>by simp at w;omega) (fun _=>?_)
 refine WP.chk ⟨by omega,by omega⟩ fun _=>?_
 refine WP.bif (fun w=>by simp at w;omega) (fun _=>?_)
 exact WP.chk ⟨by omega,by omega⟩ fun _=>WP.ret rfl
theorem roverlapX_sp (a b:AInterval) (ha:rgtP a) (hb:rgtP b):WP (r03_Overlap a b) fun r=>r=false→a.Size≤0∨b.Size≤0∨a.Off+a.Size≤b.Off∨b.Off+b.Size≤a.Off:=by
 have h1:=ha
 have h2:=hb
 unfold rgtP at h1 h2
 unfold r03_Overlap
 refine WP.call (rrightG_sp a) fun x hx=>?_
 refine WP.bif (fun wh=>?_) fun wh=>(by have:=hx.2 ha;rw [wh] at this;cases this)
 refine WP.call (rrightG_sp b) fun y hy=>?_
 refine WP.bif (fun wh=>?_) fun wh=>(by have:=hy.2 hb;rw [wh] at this;cases this)
 refine WP.bif (fun _=>?_) fun w=>WP.ret fun _=>(by have:¬0<a.Size:=(by simpa using w);omega)
 refine WP.bif (fun _=>?_) fun w=>WP.ret fun _=>(by have:¬0<b.Size:=(by simpa using w);omega)
 refine WP.chk ⟨by omega,by omega⟩ fun _=>?_
 refine WP.bif (fun _=>?_) fun w=>WP.ret fun _=>(by have:¬a.Off<b.Off+b.Size:=(by simpa using w);omega)
 refine WP.chk ⟨by omega,by omega⟩ fun _=>?_
 exact WP.ret fun w=>(by have:¬b.Off<a.Off+a.Size:=(by simpa using w);omega)
def NoClash (f:AFunc) (y:ALayout) (out:List (List Int)):Prop:=∀k,inN k f.Code.length→remB (atD f.Code k)=true→¬((atD f.Code k).Op=17∧atD y.Off (atD f.Code k).A=atD y.Off (atD f.Code k).B)→
 ∀s∈atD out k,s≠(atD f.Code k).A→atD y.Off s+(atD f.Slots s).Size≤atD y.Off (atD f.Code k).A∨atD y.Off (atD f.Code k).A+(atD f.Slots (atD f.Code k).A).Size≤atD y.Off s
theorem rclashX_sp {f:AFunc} {n i par:Int} (hf:WfF n i par f) {l:ALive} (h:Live f l.Out) {y:ALayout} (hl:y.Off.length=f.Slots.length) (hy:∀s,inN s f.Slots.length→0≤atD y.Off s∧atD y.Off s+(atD f.Slots s).Size≤3000) {k:Int} (hk:inN k f.Code.length):
 WP (r25_clash f l y k) fun r=>r.2=false→remB (atD f.Code k)=true→¬((atD f.Code k).Op=17∧atD y.Off (atD f.Code k).A=atD y.Off (atD f.Code k).B)→
  ∀s∈atD l.Out k,s≠(atD f.Code k).A→atD y.Off s+(atD f.Slots s).Size≤atD y.Off (atD f.Code k).A∨atD y.Off (atD f.Code k).A+(atD f.Slots (atD f.Code k).A).Size≤atD y.Off s:=by
 have hI:=hf.at_ hk
 have hA:=h.ann
 have hol:l.Out.length=f.Code.length:=hA.len
 have hset:=hA.set k hk
 have hsz:∀s,inN s f.Slots.length→1≤(atD f.Slots s).Size∧(atD f.Slots s).Size≤16:=fun s hs=>by
  have:=(hf.rightS _ (atD_mem hs)).1
  omega
 unfold r25_clash
 obtain ⟨hk1,hk2⟩:=hk
 refine WP.chk ⟨hk1,hk2⟩ fun _=>?_
 refine WP.call (defines_sp _) ?_
 rintro _ rfl
 refine WP.join (fun _=>remB (atD f.Code k)=true) ?_ ?_
 ·intro _ hr
  rw [show (if remB (atD f.Code k)=true then ((atD f.Code k).A,true) else (0,false))=((atD f.Code k).A,true) from if_pos hr]
  dsimp only
  obtain ⟨d1,d2⟩:=hI.dfn hr
  have hlen:=hset.1.length
  refine WP.loop (fun j=>0≤j∧j≤(atD l.Out k).length∧∀t,0≤t→t<j→atD (atD l.Out k) t≠(atD f.Code k).A→atD y.Off (atD (atD l.Out k) t)+(atD f.Slots (atD (atD l.Out k) t)).Size≤atD y.Off (atD f.Code k).A∨atD y.Off (atD f.Code k).A+(atD f.Slots (atD f.Code k).A).Size≤atD y.Off (atD (atD l.Out k) t)) (fun j=>(atD l.Out k).length- j.toNat) ⟨by omega,by omega,fun t h1 h2=>by omega⟩ ?_
  rintro again t ⟨a1,a2,a3⟩ ih
  refine WP.chk ⟨hk1,by omega⟩ fun _=>?_
  refine WP.bif (fun wh=>?_) (fun wh=>?_)<;>(try simp only [wpH] at wh)
  ·have htl:=wh
   have s2:=hset.2 _ (atD_mem ⟨a1,wh⟩)
   have s1:=(hset.1.rng _ (atD_mem ⟨a1,wh⟩)).1
   refine WP.chk ⟨hk1,by omega⟩ fun _=>?_
   refine WP.chk ⟨a1,htl⟩ fun _=>?_
   generalize hs:atD (atD l.Out k) t=s at*
   have hgo:(s≠(atD f.Code k).A→atD y.Off s+(atD f.Slots s).Size≤atD y.Off (atD f.Code k).A∨atD y.Off (atD f.Code k).A+(atD f.Slots (atD f.Code k).A).Size≤atD y.Off s)→WP (M.chk (okI (t+1)) (again (t+1))) _:=fun hh=>WP.chk ⟨by omega,by omega⟩ fun _=>ih _ ⟨by omega,by omega,fun t' q1 q2=>by
    by_cases ht:t'=t
    ·rw [ht,hs];exact hh
    ·exact a3 t' q1 (by omega)⟩ (by omega)
   refine WP.bif (fun w=>?_) (fun w=>hgo fun hne=>?_)
   ·refine WP.chk ⟨by omega,by omega⟩ fun _=>?_
    refine WP.chk ⟨by omega,by omega⟩ fun _=>?_
    refine WP.chk ⟨by omega,by omega⟩ fun _=>?_
    refine WP.chk ⟨by omega,by omega⟩ fun _=>?_
    have y1:=hy s ⟨s1,s2⟩
    have y2:=hy _ ⟨d1,d2⟩
    have z1:=hsz s ⟨s1,s2⟩
    have z2:=hsz _ ⟨d1,d2⟩
    refine WP.call (roverlapX_sp _ _ (by unfold rgtP;dsimp only;omega) (by unfold rgtP;dsimp only;omega)) fun b hb=>?_
    refine WP.bif (fun wb=>WP.ret fun q=>(by cases q)) (fun wb=>hgo fun _=>?_)
    have:=hb wb
    dsimp only at this
    omega
   ·have:s=(atD f.Code k).A:=by simpa using w
    exact absurd this hne
  ·refine WP.ret fun _ _ _ s hs hne=>?_
   obtain ⟨t',t1,t2,rfl⟩:=mem_atD hs
   exact a3 t' t1 (by omega) hne
 ·intro k2 hk2
  cases hr:remB (atD f.Code k) with
  | false=>exact WP.bif (fun _=>WP.ret fun _ q=>(by cases q)) (fun q=>by cases q)
  | true=>
    refine WP.bif (fun q=>by cases q) (fun _=>?_)
    rw [hr] at hk2
    refine WP.bif (fun wh=>?_) (fun _=>hk2 _ rfl)<;>(try simp only [wpH] at wh)
    obtain ⟨p1,p2⟩:=hI.dfn hr
    obtain ⟨p3,p4⟩:=hI.use (y:=(atD f.Code k).B) (by unfold useS;rw [if_pos (.inr wh)];exact List.mem_cons_self)
    refine WP.chk ⟨by omega,by omega⟩ fun _=>?_
    refine WP.chk ⟨by omega,by omega⟩ fun _=>?_
    refine WP.bif (fun w=>WP.ret fun _ _ hno=>?_) (fun _=>hk2 _ rfl)
    exact absurd ⟨wh,by simpa using w⟩ hno
structure AccP (p:AProgram) (i al:Int) (y:ALayout):Prop where
 shape:ShapeP p i al y
 ex:∃out,Live (atD p.Funcs i) out∧NoClash (atD p.Funcs i) y out
section
variable {p:AProgram} {i al:Int}
theorem ShapeP.place (hp:WfP p) (hi:inN i p.Funcs.length) {y:ALayout} (h:ShapeP p i al y) {s:Int} (hs:inN s (atD p.Funcs i).Slots.length):0≤y.Args∧y.Args≤atD y.Off s∧atD y.Off s+(atD (atD p.Funcs i).Slots s).Size≤y.Size∧y.Size≤3000:=by
 have hA:=argsN_R hp hi (l:=(atD p.Funcs i).Code) fun x hx=>hx
 have h1:=h.args
 have h2:=h.off s hs
 have h3:=h.sz
 omega
theorem rClashX_sp (hp:WfP p) (hi:inN i p.Funcs.length) (hal:al=alignP p) {l:ALive} (h:Live (atD p.Funcs i) l.Out) (y:ALayout) (hS0:ShapeP p i al y) (hsh:WP (r25_Shape p i al y) (·=0)):WP (r25_Clash p i al l y) fun r=>r.2.2=false→NoClash (atD p.Funcs i) y l.Out:=by
 have hf:=hp.func i hi.1 hi.2
 have hc:=hf.code
 unfold r25_Clash
 refine WP.call hsh ?_
 rintro _ rfl
 refine WP.bif (fun w=>by simp at w) fun _=>?_
 refine WP.chk hi fun _=>?_
 refine WP.call (check17_sp hf h) ?_
 rintro _ rfl
 refine WP.bif (fun w=>by simp at w) fun _=>?_
 refine WP.loop (fun j=>0≤j∧j≤(atD p.Funcs i).Code.length∧∀k,inN k (atD p.Funcs i).Code.length→k<j→remB (atD (atD p.Funcs i).Code k)=true→¬((atD (atD p.Funcs i).Code k).Op=17∧atD y.Off (atD (atD p.Funcs i).Code k).A=atD y.Off (atD (atD p.Funcs i).Code k).B)→
  ∀s∈atD l.Out k,s≠(atD (atD p.Funcs i).Code k).A→atD y.Off s+(atD (atD p.Funcs i).Slots s).Size≤atD y.Off (atD (atD p.Funcs i).Code k).A∨atD y.Off (atD (atD p.Funcs i).Code k).A+(atD (atD p.Funcs i).Slots (atD (atD p.Funcs i).Code k).A).Size≤atD y.Off s) (fun j=>(atD p.Funcs i).Code.length- j.toNat) ⟨by omega,by omega,fun k h1 h2=>by have:=h1.1;omega⟩ ?_
 rintro again k ⟨a1,a2,a3⟩ ih
 refine WP.chk hi fun _=>?_
 refine WP.bif (fun wh=>?_) (fun wh=>?_)<;>(try simp only [wpH] at wh)
 ·refine WP.chk hi fun _=>?_
  refine WP.call (rclashX_sp hf h hS0.len (fun s hs=>by have:=hS0.place hp hi hs;omega) ⟨a1,wh⟩) fun x hx=>?_
  refine WP.bif (fun _=>WP.ret fun q=>(by cases q)) fun wb=>?_
  refine WP.chk ⟨by omega,by omega⟩ fun _=>ih _ ⟨by omega,by omega,fun k' q1 q2=>?_⟩ (by omega)
  by_cases hk:k'=k
  ·rw [hk];exact hx wb
  ·exact a3 k' q1 (by omega)
 ·exact WP.ret fun _ k hk=>a3 k hk (by have:=hk.2;omega)
theorem rcheckX_sp (hp:WfP p) (hi:inN i p.Funcs.length) (hal:al=alignP p) {l:ALive} (h:Live (atD p.Funcs i) l.Out) (y:ALayout):WP (r25_Check p i al l y) fun e=>e=0→AccP p i al y:=by
 have hf:=hp.func i hi.1 hi.2
 obtain ⟨e,he1,he2⟩:=rshape_sp hp hi hal y
 unfold r25_Check
 refine WP.call (R:=(·=e)) ⟨e,he1,rfl⟩ ?_
 rintro _ rfl
 refine WP.bif (fun wh=>?_) fun wh=>?_
 ·rw [Bool.not_eq_true',decide_eq_false_iff_not] at wh
  exact WP.ret fun q=>(wh q).elim
 rw [Bool.not_eq_false',decide_eq_true_eq] at wh
 have hS:=he2 wh
 refine WP.chk hi fun _=>?_
 refine WP.call (check17_sp hf h) ?_
 rintro _ rfl
 refine WP.bif (fun w=>by simp at w) fun _=>?_
 refine WP.call (rClashX_sp hp hi hal h y hS ⟨_,he1,wh⟩) fun x hx=>?_
 exact WP.bif (fun _=>WP.ret fun q=>(by cases q)) fun w=>WP.ret fun _=>⟨hS,l.Out,h,hx w⟩
theorem base_acc (hp:WfP p) (hi:inN i p.Funcs.length) (hal:al=alignP p):WP (r24_Baseline p i al) fun r=>r.2=0∧AccP p i al r.1:=by
 have hf:=hp.func i hi.1 hi.2
 have hsl:=hp.slotsR (atD_mem hi)
 have hA:=argsN_R hp hi (l:=(atD p.Funcs i).Code) fun x hx=>hx
 obtain ⟨hp1,hp2,hp3⟩:=alP_pow hp (.inl hal)
 obtain ⟨e1,e2,e3,e4⟩:=baseR_small (args:=16*argsN p (atD p.Funcs i).Code) (al:=al) (l:=(atD p.Funcs i).Slots) (by omega) (by omega) hsl.1 hsl.2 hp1 (by omega)
 obtain ⟨r,hr1,hr2⟩:=rbaseline_sp hi (rargs24_sp p i hp hi) (by omega) (by omega) (fun s hs=>(hsl.2 s hs).okS) (by omega) hp1
 have hle:=offL_len (16*argsN p (atD p.Funcs i).Code) (atD p.Funcs i).Slots
 have hzm:=upZ_mod (offL (16*argsN p (atD p.Funcs i).Code) (atD p.Funcs i).Slots).2 al
 have hzl:=upZ_le (n:=(offL (16*argsN p (atD p.Funcs i).Code) (atD p.Funcs i).Slots).2) hp3
 have hof:=fun k hk=>off_facts (e:=16*argsN p (atD p.Funcs i).Code) (fun s hs=>(hsl.2 s hs).okS) k (hk:inN k (atD p.Funcs i).Slots.length)
 obtain ⟨l,hl1,hl2⟩:=solve_sp hf
 rw [e1] at hr2
 refine ⟨r,hr1,?_⟩
 rw [hr2]
 refine ⟨rfl,⟨rfl,hle,fun k hk=>?_,⟨by dsimp only;omega,by dsimp only;omega,hzm⟩,Int.le_refl _⟩,l.Out,hl2.live,fun k hk hr _ s hs hne=>?_⟩
 ·obtain ⟨g1,g2,g3,g4,g5,_⟩:=hof k hk
  exact ⟨g1,g5,by dsimp only;omega⟩
 ·have hset:=hl2.live.ann.set k hk
  have hs1:inN s (atD p.Funcs i).Slots.length:=⟨(hset.1.rng _ hs).1,hset.2 _ hs⟩
  have hd:inN (atD (atD p.Funcs i).Code k).A (atD p.Funcs i).Slots.length:=(hf.at_ hk).dfn hr
  dsimp only
  rcases Int.lt_trichotomy s (atD (atD p.Funcs i).Code k).A with h| h| h
  ·exact .inl ((hof _ hd).2.2.2.2.2.2 s hs1.1 h)
  ·exact absurd h hne
  ·exact .inr ((hof _ hs1).2.2.2.2.2.2 _ hd.1 h)
theorem AccP.small (hp:WfP p) (hi:inN i p.Funcs.length) (hal:al=alignP p) {y:ALayout} (h:AccP p i al y):0≤y.Size∧y.Size≤1000∧y.Size % al=0:=by
 have hsl:=hp.slotsR (atD_mem hi)
 have hA:=argsN_R hp hi (l:=(atD p.Funcs i).Code) fun x hx=>hx
 obtain ⟨hp1,hp2,hp3⟩:=alP_pow hp (.inl hal)
 obtain ⟨e1,e2,e3,e4⟩:=baseR_small (args:=16*argsN p (atD p.Funcs i).Code) (al:=al) (l:=(atD p.Funcs i).Slots) (by omega) (by omega) hsl.1 hsl.2 hp1 (by omega)
 have hzl:=upZ_lt (n:=(offL (16*argsN p (atD p.Funcs i).Code) (atD p.Funcs i).Slots).2) hp3
 have:=h.shape.sz
 have:=h.shape.top
 have:=h.shape.args
 have:=hsl.1
 omega
end
theorem sceneX_sp (cs:List Int) (h:isU8 cs):WP (law26_scene cs false) fun r=>WfP r.1∧r.1.Funcs.length≤3∧r.2.1=alignP r.1∧r.2.2.1.length=r.1.Funcs.length∧(∀i,inN i r.1.Funcs.length→AccP r.1 i r.2.1 (atD r.2.2.1 i))∧okC r.2.2.2:=by
 unfold law26_scene
 refine WP.call (new_sp cs 300 h (by omega)) fun x1 h1=>?_
 refine WP.call (program_sp x1 3 12 h1 (by omega) (by omega)) fun x2 ⟨h2,h3,h4⟩=>?_
 have h5:=h3.len
 refine WP.call (align5_sp _ h3) ?_
 rintro _ rfl
 obtain ⟨hp1,_,_⟩:=alP_pow h3 (.inl rfl)
 refine WP.loop (fun j=>(0≤j.1∧j.1≤x2.1.Funcs.length)∧okC j.2.1∧(j.2.2.length:Int)=j.1∧∀t,0≤t→t<j.1→AccP x2.1 t (alignP x2.1) (atD j.2.2 t)) (fun j=>x2.1.Funcs.length- j.1.toNat) ⟨⟨by simp,by simp⟩,h2,by simp,fun t q1 q2=>by exfalso;dsimp only at q2;omega⟩ ?_
 rintro again ⟨i,c,l⟩ ⟨⟨a1,a2⟩,a3,a4,a5⟩ ih
 dsimp only at a1 a2 a3 a4 a5 ih ⊢
 refine WP.bif (fun wh=>?_) (fun wh=>?_)<;>(try simp only [wpH] at wh)
 ·have hi:inN i x2.1.Funcs.length:=⟨a1,wh⟩
  have hf:=h3.func i a1 wh
  refine WP.call (base_acc h3 hi rfl) fun x4 ⟨_,b2⟩=>?_
  refine WP.call (layout_sp h3 hi hp1 _ a3) fun x5 ⟨c1,c2⟩=>?_
  refine WP.bif (fun wh=>by cases wh) fun _=>?_
  refine WP.chk hi fun _=>?_
  refine WP.call (lives_sp _ c1 hf) fun x6 ⟨d1,d2⟩=>?_
  refine WP.call (rcheckX_sp h3 hi rfl d2 x5.1) fun e he=>?_
  have hgo:∀z:ALayout,AccP x2.1 i (alignP x2.1) z→WP (M.chk (l.length+([z]:List ALayout).length<1000000000000)<| M.chk (okI (i+1))<| again ((i+1),x6.2,(l++([z]:List ALayout)))) _:=fun z hz=>by
   refine WP.chk (by simp only [List.length_singleton];omega) fun _=>?_
   refine WP.chk ⟨by omega,by omega⟩ fun _=>?_
   refine ih _ ⟨⟨by dsimp only;omega,by dsimp only;omega⟩,d1,by simp only [List.length_append,List.length_singleton];omega,fun t q1 q2=>?_⟩ (by dsimp only;omega)
   dsimp only at q2 ⊢
   by_cases ht:t=i
   ·rw [ht,atD_last (by omega)];exact hz
   ·rw [atD_append_left (by omega)];exact a5 t q1 (by omega)
  refine WP.bif (fun wh=>?_) (fun _=>hgo _ b2)
  rw [decide_eq_true_eq] at wh
  exact hgo _ (he wh)
 ·refine WP.join (fun j=>j=(l,c)) ?_ ?_
  ·rintro _ rfl
   refine WP.ret ⟨h3,by dsimp only;omega,rfl,by dsimp only;omega,fun t ht=>a5 t ht.1 (by have:=ht.2;dsimp only at this;omega),a3⟩
  ·intro k hk
   exact WP.bif (fun wh=>by cases wh) fun _=>hk _ rfl
def endT (n:R12machine) (k:Int):R12machine:=⟨n.t,n.regs,n.acts,n.stack,n.first,n.deep,n.input,true,endO n.out k⟩
theorem end12_sp (n:R12machine) (k:Int):WP (r12_machine_end n k) (·=endT n k):=by
 unfold r12_machine_end
 exact WP.ret rfl
theorem enter12_sp (n:R12machine) (f:Int) (hf:inN f n.t.Frames.length) (hs:StkP n.stack) (hn:0≤(atD n.t.Frames f).Size∧(atD n.t.Frames f).Size≤n.stack.SP) (h1:0≤n.first∧n.first≤100000) (ha:n.acts.length≤1000):
 WP (r12_machine_enter n f) fun r=>∃s' d,PushP n.stack s' (atD n.t.Frames f).Size∧r=⟨n.t,n.regs,n.acts++[⟨f,0⟩],s',n.first,d,n.input,n.done,n.out⟩:=by
 have hsp:=hs.sp
 have hm:=hs.most
 unfold r12_machine_enter
 refine WP.chk hf fun _=>?_
 refine WP.call (push09_sp _ _ hs hn) fun x ⟨x1,x2⟩=>?_
 have hx:=x2.sp
 refine WP.bif (fun w=>by simp [x1] at w) fun _=>?_
 exact WP.chk ⟨by omega,by omega⟩ fun _=>WP.chk (by omega) fun _=>WP.chk (by simp only [List.length_cons,List.length_nil];omega) fun _=>WP.ret ⟨_,_,x2,rfl⟩
theorem leave12_sp (n:R12machine) (A:List R12activation) (t:R12activation) (hacts:n.acts=A++[t]) (hA:A.length≤1000) (hf:inN t.f n.t.Frames.length) (hs:StkP n.stack) (hn:0≤(atD n.t.Frames t.f).Size∧n.stack.SP+(atD n.t.Frames t.f).Size≤n.stack.Bytes.length):
 WP (r12_machine_leave n) (·=if A=[] then ⟨n.t,n.regs,A,⟨n.stack.Bytes,n.stack.Used,n.stack.SP+(atD n.t.Frames t.f).Size⟩,n.first,n.deep,n.input,true,⟨0,n.out.Code,n.regs.e0,n.out.Trace,n.out.Steps⟩⟩ else ⟨n.t,n.regs,A,⟨n.stack.Bytes,n.stack.Used,n.stack.SP+(atD n.t.Frames t.f).Size⟩,n.first,n.deep,n.input,n.done,n.out⟩):=by
 obtain ⟨s1,s2,s3,s4⟩:=snoc26 A t
 have hlen:(n.acts.length:Int)- 1=(A.length:Int):=by rw [hacts];exact s1
 have hll:(n.acts.length:Int)=(A.length:Int)+1:=by omega
 have htop:atD n.acts (A.length:Int)=t:=by rw [hacts];exact s2
 have hsl:sliceD n.acts 0 (A.length:Int)=A:=by rw [hacts];exact s3
 unfold r12_machine_leave
 rw [hlen,htop,hsl]
 refine WP.chk ⟨by omega,by omega⟩ fun _=>WP.chk ⟨by omega,by omega⟩ fun _=>WP.chk hf fun _=>?_
 refine WP.call (pop09_sp _ _ hs hn) ?_
 rintro _ rfl
 refine WP.chk ⟨by omega,by omega,by omega⟩ fun _=>WP.chk (by omega) fun _=>?_
 refine WP.bif (fun w0=>?_) (fun w0=>?_)
 ·have hA0:A=[]:=by
   have:(A.length:Int)=0:=by simpa using w0
   exact List.length_eq_zero_iff.1 (by omega)
  rw [if_pos hA0]
  refine WP.call (end12_sp _ _) ?_
  rintro _ rfl
  exact WP.ret rfl
 ·have hA0:¬A=[]:=by
   have:¬(A.length:Int)=0:=by simpa using w0
   intro h0;rw [h0] at this;exact this rfl
  rw [if_neg hA0]
  exact WP.ret rfl
theorem load12_sp (n:R12machine) (z:AInstr) (hz:z.Op=15) (ha:reg z.A) (hs:StkP n.stack) (h:RgtS n.stack z.B z.C):
 WP (r12_machine_memory n z) fun r=>r.1=true∧(UsedS n.stack z.B z.C→r.2=⟨n.t,n.regs.set z.A (fromB (cutS n.stack z.B z.C)),n.acts,n.stack,n.first,n.deep,n.input,n.done,n.out⟩)∧(¬UsedS n.stack z.B z.C→r.2=endT n 3):=by
 unfold r12_machine_memory
 refine WP.join (fun j=>j.2.1=0∧(j.1=true↔UsedS n.stack z.B z.C)∧(j.1=true→j.2.2=⟨n.t,n.regs.set z.A (fromB (cutS n.stack z.B z.C)),n.acts,n.stack,n.first,n.deep,n.input,n.done,n.out⟩)∧(j.1=false→j.2.2=n)) ?_ fun k hk=>?_
 ·rintro ⟨ok,e,m2⟩ ⟨q1,q2,q3,q4⟩
  dsimp only at q1 q2 q3 q4 ⊢
  subst q1
  refine WP.bif (fun w=>by simp at w) fun _=>?_
  refine WP.bif (fun w=>?_) fun w=>?_
  ·have e:ok=false:=by simpa using w
   rw [q4 e]
   refine WP.call (end12_sp _ _) ?_
   rintro _ rfl
   exact WP.ret ⟨rfl,fun hu=>(by have:=q2.2 hu;rw [e] at this;cases this),fun _=>rfl⟩
  ·have e:ok=true:=by simpa using w
   exact WP.ret ⟨rfl,fun _=>q3 e,fun hu=>absurd (q2.1 e) hu⟩
 refine WP.bif (fun _=>?_) (fun w=>by simp [hz] at w)
 refine WP.call (load09_sp _ _ _ hs h) fun x ⟨x1,x2,x3⟩=>?_
 refine WP.bif (fun w=>?_) (fun w=>?_)
 ·refine WP.bif (fun _=>?_) (fun w2=>by simp [x1] at w2)
  exact WP.chk ha fun _=>hk _ ⟨x1,x2,fun _=>(by dsimp only;rw [x3 w]),fun w'=>(by dsimp only at w';rw [w] at w';cases w')⟩
 ·exact hk _ ⟨x1,x2,fun w'=>(by dsimp only at w';rw [w] at w';cases w'),fun _=>rfl⟩
theorem store12_sp (n:R12machine) (z:AInstr) (hz:z.Op=16) (hb:reg z.B) (hr:regR n.regs) (hs:StkP n.stack) (h:RgtS n.stack z.A z.C):
 WP (r12_machine_memory n z) fun r=>r.1=true∧∃s',StoreP n.stack s' z.A z.C (n.regs.at_ z.B)∧r.2=⟨n.t,n.regs,n.acts,s',n.first,n.deep,n.input,n.done,n.out⟩:=by
 unfold r12_machine_memory
 refine WP.join (fun j=>j.2.1=0∧j.1=true∧∃s',StoreP n.stack s' z.A z.C (n.regs.at_ z.B)∧j.2.2=⟨n.t,n.regs,n.acts,s',n.first,n.deep,n.input,n.done,n.out⟩) ?_ fun k hk=>?_
 ·rintro ⟨ok,e,m2⟩ ⟨q1,q2,q3⟩
  dsimp only at q1 q2 q3 ⊢
  subst q1 q2
  refine WP.bif (fun w=>by simp at w) fun _=>?_
  exact WP.bif (fun w=>by simp at w) fun w=>WP.ret ⟨rfl,q3⟩
 refine WP.bif (fun w=>by simp [hz] at w) fun _=>?_
 refine WP.bif (fun _=>?_) (fun w=>by simp [hz] at w)
 refine WP.chk hb fun _=>?_
 refine WP.call (store09_sp _ _ _ _ hs h (hr _)) fun x ⟨x1,x2⟩=>?_
 exact hk _ ⟨x1,rfl,_,x2,rfl⟩
theorem move12_sp (n:R12machine) (z:AInstr) (hz:z.Op=17) (hs:StkP n.stack) (h1:RgtS n.stack z.A z.C) (h2:RgtS n.stack z.B z.C):
 WP (r12_machine_memory n z) fun r=>r.1=true∧(UsedS n.stack z.B z.C→∃s',StoreP n.stack s' z.A z.C (fromB (cutS n.stack z.B z.C))∧r.2=⟨n.t,n.regs,n.acts,s',n.first,n.deep,n.input,n.done,n.out⟩)∧(¬UsedS n.stack z.B z.C→r.2=endT n 3):=by
 unfold r12_machine_memory
 refine WP.join (fun j=>j.2.1=0∧(j.1=true↔UsedS n.stack z.B z.C)∧(j.1=true→∃s',StoreP n.stack s' z.A z.C (fromB (cutS n.stack z.B z.C))∧j.2.2=⟨n.t,n.regs,n.acts,s',n.first,n.deep,n.input,n.done,n.out⟩)∧(j.1=false→j.2.2=n)) ?_ fun k hk=>?_
 ·rintro ⟨ok,e,m2⟩ ⟨q1,q2,q3,q4⟩
  dsimp only at q1 q2 q3 q4 ⊢
  subst q1
  refine WP.bif (fun w=>by simp at w) fun _=>?_
  refine WP.bif (fun w=>?_) fun w=>?_
  ·have e:ok=false:=by simpa using w
   rw [q4 e]
   refine WP.call (end12_sp _ _) ?_
   rintro _ rfl
   exact WP.ret ⟨rfl,fun hu=>(by have:=q2.2 hu;rw [e] at this;cases this),fun _=>rfl⟩
  ·have e:ok=true:=by simpa using w
   exact WP.ret ⟨rfl,fun _=>q3 e,fun hu=>absurd (q2.1 e) hu⟩
 refine WP.bif (fun w=>by simp [hz] at w) fun _=>?_
 refine WP.bif (fun w=>by simp [hz] at w) fun _=>?_
 refine WP.bif (fun _=>?_) (fun w=>by simp [hz] at w)
 refine WP.call (move09_sp _ _ _ _ hs h1 h2) fun x ⟨x1,x2,x3,x4⟩=>?_
 exact hk _ ⟨x1,x2,fun w=>⟨_,x3 w,rfl⟩,fun w=>(by dsimp only;rw [x4 w])⟩
theorem plain12_mem (n:R12machine) (z:AInstr) (h:¬(15≤z.Op∧z.Op≤17)):WP (r12_machine_memory n z) (·=(false,n)):=by
 unfold r12_machine_memory
 refine WP.join0 ?_
 refine WP.bif (fun w=>by simp at w;omega) fun _=>?_
 refine WP.bif (fun w=>by simp at w;omega) fun _=>?_
 exact WP.bif (fun w=>by simp at w;omega) fun _=>WP.ret rfl
theorem byteV_trunc (x:AValue) (n k:Int) (hx:valR x) (hn:sizeR n) (hk:0≤k∧k<n):byteV (truncV x n) k=byteV x k:=by
 have hl:=hx.1
 unfold u64R at hl
 by_cases h16:n=16
 ·rw [h16,trunc_16 x hx]
 by_cases h8:n=8
 ·subst h8
  have e:truncV x 8=⟨x.Lo,0⟩:=by rw [trunc_eq x 8 hx hn];simp
  rw [e]
  unfold byteV
  rw [if_pos (by omega),if_pos (by omega)]
 rw [trunc_eq x n hx hn]
 unfold byteV
 have hc:n=1∨n=2∨n=4:=by unfold sizeR at hn;omega
 rcases hc with rfl| rfl| rfl
 ·have:k=0:=by omega
  subst this
  simp
 ·have:k=0∨k=1:=by omega
  rcases this with rfl| rfl
  ·simp
   try omega
  ·simp
   try omega
 ·have:k=0∨k=1∨k=2∨k=3:=by omega
  rcases this with rfl| rfl| rfl| rfl
  ·simp
   try omega
  ·simp
   try omega
  ·simp
   try omega
  ·simp
   try omega
structure MemP (st:AStack) (at_ n:Int) (v:AValue):Prop where
 usd:∀k:Int,0≤k→k<n→atD st.Used (at_+k)=true
 byt:∀k:Int,0≤k→k<n→atD st.Bytes (at_+k)=byteV v k
 val:valR v
 cut:truncV v n=v
theorem eq_of_at {a b:List Int} (hl:a.length=b.length) (h:∀k:Int,0≤k→k<a.length→atD a k=atD b k):a=b:=by
 apply List.ext_getElem hl
 intro i h1 h2
 have:=h i (by omega) (by omega)
 rwa [atD_nat h1,atD_nat h2] at this
theorem MemP.load {st:AStack} {off n:Int} {v:AValue} (hs:StkP st) (h:RgtS st off n) (hm:MemP st (st.SP+off) n v):UsedS st off n∧fromB (cutS st off n)=v:=by
 refine ⟨fun k h1 h2=>hm.usd k h1 h2,?_⟩
 have hl:=cutS_length hs h
 have hsz:=h.1
 have e:cutS st off n=bytesV v n:=by
  apply eq_of_at
  ·rw [bytesV_length];omega
  ·intro k h1 h2
   rw [cutS_at hs h ⟨h1,by omega⟩,bytesV_at v ⟨h1,by omega⟩]
   exact hm.byt k h1 (by omega)
 rw [e];exact hm.cut
theorem StoreP.mem {st s':AStack} {off n:Int} {v:AValue} (hs:StkP st) (h:RgtS st off n) (hv:valR v) (hp:StoreP st s' off n v):MemP s' (st.SP+off) n (truncV v n):=by
 have hsp:=hs.sp
 have h2:=h.2.1
 refine ⟨fun k h1 h2=>?_,fun k h1 h2=>?_,trunc_rng v n hv h.1,trunc_idem v n hv h.1⟩
 ·rw [hp.usd _ (by omega),if_pos (by omega)]
 ·rw [hp.byt _ (by omega),if_pos (by omega),byteV_trunc v n k hv h.1 ⟨h1,h2⟩]
  congr 1;omega
theorem StoreP.other {st s':AStack} {off n at_ m:Int} {v w:AValue} (hp:StoreP st s' off n v) (hm:MemP st at_ m w) (h0:0≤at_) (hd:at_+m≤st.SP+off∨st.SP+off+n≤at_):MemP s' at_ m w:=by
 refine ⟨fun k h1 h2=>?_,fun k h1 h2=>?_,hm.val,hm.cut⟩
 ·rw [hp.usd _ (by omega),if_neg (by omega)];exact hm.usd k h1 h2
 ·rw [hp.byt _ (by omega),if_neg (by omega)];exact hm.byt k h1 h2
theorem StoreP.same {st s':AStack} {off n at_ m:Int} {v w:AValue} (hp:StoreP st s' off n v) (hold:MemP st (st.SP+off) n v) (hm:MemP st at_ m w) (h0:0≤at_):MemP s' at_ m w:=by
 refine ⟨fun k h1 h2=>?_,fun k h1 h2=>?_,hm.val,hm.cut⟩
 ·rw [hp.usd _ (by omega)]
  split
  ·rfl
  ·exact hm.usd k h1 h2
 ·rw [hp.byt _ (by omega),←hm.byt k h1 h2]
  split
  ·rename_i hh
   have:=hold.byt (at_+k- (st.SP+off)) (by omega) (by omega)
   rw [←this];congr 1;omega
  ·rfl
theorem PushP.mem {st s':AStack} {n at_ m:Int} {w:AValue} (hp:PushP st s' n) (hm:MemP st at_ m w) (h0:0≤at_) (hd:st.SP≤at_):MemP s' at_ m w:=by
 refine ⟨fun k h1 h2=>?_,fun k h1 h2=>?_,hm.val,hm.cut⟩
 ·rw [hp.usd _ (by omega),if_neg (by omega)];exact hm.usd k h1 h2
 ·rw [hp.byt];exact hm.byt k h1 h2
theorem MemP.pop {st:AStack} {at_ m:Int} {w:AValue} (hm:MemP st at_ m w) (sp:Int):MemP ⟨st.Bytes,st.Used,sp⟩ at_ m w:=⟨hm.usd,hm.byt,hm.val,hm.cut⟩
structure SetP (p:AProgram) (al:Int) (l:List ALayout) (t:ATarget) (O:Int→List (List Int)):Prop where
 wf:WfP p
 few:p.Funcs.length≤4
 hal:al=alignP p
 len:l.length=p.Funcs.length
 acc:∀i,inN i p.Funcs.length→AccP p i al (atD l i)
 low:LowP p al l t
 live:∀i,inN i p.Funcs.length→Live (atD p.Funcs i) (O i)
 clash:∀i,inN i p.Funcs.length→NoClash (atD p.Funcs i) (atD l i) (O i)
def sumZ (l:List ALayout):List Int→Int
 | []=>0
 | f::r=>(atD l f).Size+sumZ l r
theorem sumZ_append (l:List ALayout):∀(a b:List Int),sumZ l (a++b)=sumZ l a+sumZ l b
 | [],b=>by simp [sumZ]
 | x::a,b=>by
   show (atD l x).Size+sumZ l (a++b)=(atD l x).Size+sumZ l a+sumZ l b
   rw [sumZ_append l a b];omega
theorem sumZ_bound {l:List ALayout}:∀{fs:List Int},(∀f∈fs,0≤(atD l f).Size∧(atD l f).Size≤1000)→0≤sumZ l fs∧sumZ l fs≤1000*fs.length
 | [],_=>by simp [sumZ]
 | f::r,h=>by
   have h1:=h f List.mem_cons_self
   have h2:=sumZ_bound (fs:=r) fun x hx=>h x (List.mem_cons_of_mem _ hx)
   simp only [sumZ,List.length_cons]
   omega
def LinkP (p:AProgram) (acts:List R12activation):Prop:=∀(B:List R12activation) (a b:R12activation) (C:List R12activation),acts=B++a::b::C→0≤a.at_- 1∧(atD (atD p.Funcs a.f).Code (a.at_- 1)).Op=22∧(atD (atD p.Funcs a.f).Code (a.at_- 1)).A=b.f
theorem snoc_cases {α:Type} {B C A:List α} {a b x:α} (h:A++[x]=B++a::b::C):(C=[]∧b=x∧A=B++[a])∨∃C',C=C'++[x]∧A=B++a::b::C':=by
 rcases List.eq_nil_or_concat C with rfl| ⟨C',y,rfl⟩
 ·left
  have e:B++[a,b]=(B++[a])++[b]:=by simp
  rw [e] at h
  obtain ⟨h1,h2⟩:=List.append_inj' h rfl
  simp only [List.cons.injEq,and_true] at h2
  exact ⟨rfl,h2.symm,h1⟩
 ·right
  have e:B++a::b::(C'.concat y)=(B++a::b::C')++[y]:=by simp
  rw [e] at h
  obtain ⟨h1,h2⟩:=List.append_inj' h rfl
  simp only [List.cons.injEq,and_true] at h2
  exact ⟨C',by rw [h2];simp,h1⟩
theorem LinkP.next {p:AProgram} {A:List R12activation} {t t':R12activation} (h:LinkP p (A++[t])) (hf:t'.f=t.f):LinkP p (A++[t']):=fun B a b C e=>by
 rcases snoc_cases e with ⟨rfl,rfl,rfl⟩| ⟨C',rfl,rfl⟩
 ·have:=h B a t [] (by simp)
  rw [hf];exact this
 ·exact h B a b (C'++[t]) (by simp)
theorem LinkP.pop {p:AProgram} {A:List R12activation} {t:R12activation} (h:LinkP p (A++[t])):LinkP p A:=fun B a b C e=>h B a b (C++[t]) (by rw [e];simp)
theorem LinkP.push {p:AProgram} {A:List R12activation} {t u:R12activation} (h:LinkP p (A++[t])) (h0:0≤t.at_- 1) (h1:(atD (atD p.Funcs t.f).Code (t.at_- 1)).Op=22) (h2:(atD (atD p.Funcs t.f).Code (t.at_- 1)).A=u.f):LinkP p (A++[t]++[u]):=fun B a b C e=>by
 rcases snoc_cases e with ⟨rfl,rfl,e2⟩| ⟨C',rfl,e2⟩
 ·obtain ⟨_,e4⟩:=List.append_inj' e2 rfl
  simp only [List.cons.injEq,and_true] at e4
  subst e4
  exact ⟨h0,h1,h2⟩
 ·exact h B a b C' e2
structure TgtS (p:AProgram) (l:List ALayout) (t:ATarget) (n:R12machine) (A:List R12activation) (top:R12activation):Prop where
 tgt:n.t=t
 acts:n.acts=A++[top]
 regs:regR n.regs
 all:∀a∈n.acts,inN a.f p.Funcs.length∧inN a.at_ (atD p.Funcs a.f).Code.length
 inc:(n.acts.map (·.f)).Pairwise (·<·)
 fst:(atD n.acts 0).f=0
 link:LinkP p n.acts
 inp:∀z∈n.input,wordR z
 inl:n.input.length≤1000
 steps:0≤n.out.Steps∧n.out.Steps≤500
 tr:(n.out.Trace.length:Int)≤n.out.Steps
 run:n.done=false
 stk:StkP n.stack
 blen:n.stack.Bytes.length=4096
 sp:n.stack.SP=4096- sumZ l (n.acts.map (·.f))
 first:n.first=4096
theorem asc_few {fs:List Int} {m:Nat} (h:fs.Pairwise (·<·)) (hr:∀f∈fs,inN f m):fs.length≤m:=by
 have hnd:fs.Nodup:=h.imp fun hxy e=>by omega
 have key:∀k:Nat,(hk:k<fs.length)→(k:Int)≤fs[k]:=fun k=>by
  induction k with
  | zero=>intro hk;exact (hr _ (List.getElem_mem _)).1
  | succ k ih=>
    intro hk
    have:=ih (by omega)
    have:=List.pairwise_iff_getElem.1 h k (k+1) (by omega) hk (by omega)
    omega
 refine Classical.byContradiction fun hn=>?_
 have h1:=key (fs.length- 1) (by omega)
 have h2:=(hr _ (List.getElem_mem (l:=fs) (n:=fs.length- 1) (by omega))).2
 omega
def tailT (n1:R12machine) (z:AInstr):M R12machine:=
 M.bif (decide (z.Op=20∨z.Op=21)) (M.ret n1)
  (M.bif (decide (z.Op=22)) (M.call (r12_machine_enter n1 z.A) fun x2=>M.ret x2)
   (M.bif (decide (z.Op=23)) (M.call (r12_machine_leave n1) fun x3=>M.ret x3)
    (M.bif (decide (z.Op=24)) (M.call (r12_machine_end n1 1) fun x4=>M.ret (⟨x4.t,x4.regs,x4.acts,x4.stack,x4.first,x4.deep,x4.input,x4.done,(⟨x4.out.Kind,z.Imm,x4.out.Result,x4.out.Trace,x4.out.Steps⟩:AOutcome)⟩:R12machine))
     (M.call (r12_machine_memory n1 z) fun x5=>M.bif x5.1 (M.ret x5.2)
      (M.call (r08_Plain z x5.2.regs x5.2.input x5.2.out.Trace) fun x6=>
       M.bif x6.2.2.2 (M.call (r12_machine_end (⟨x5.2.t,x6.1,x5.2.acts,x5.2.stack,x5.2.first,x5.2.deep,x6.2.1,x5.2.done,(⟨x5.2.out.Kind,x5.2.out.Code,x5.2.out.Result,x6.2.2.1,x5.2.out.Steps⟩:AOutcome)⟩:R12machine) 2) fun x7=>M.ret x7)
        (M.ret (⟨x5.2.t,x6.1,x5.2.acts,x5.2.stack,x5.2.first,x5.2.deep,x6.2.1,x5.2.done,(⟨x5.2.out.Kind,x5.2.out.Code,x5.2.out.Result,x6.2.2.1,x5.2.out.Steps⟩:AOutcome)⟩:R12machine)))))))
theorem tail_sp {n:R12machine} {A:List R12activation} {top:R12activation} {z:AInstr} {Q:R12machine→Prop} (hacts:n.acts=A++[top]) (hA:A.length≤1000) (hf:inN top.f n.t.Frames.length) (hat:inN top.at_ (atD n.t.Frames top.f).Code.length) (hc:(atD n.t.Frames top.f).Code.length≤1000)
 (hz:atD (atD n.t.Frames top.f).Code top.at_=z) (hst:0≤n.out.Steps∧n.out.Steps≤500) (h21:z.Op=21→reg z.A)
 (h:WP (tailT ⟨n.t,n.regs,A++[⟨top.f,nextAt z n.regs top.at_⟩],n.stack,n.first,n.deep,n.input,n.done,stepO n.out⟩ z) Q):WP (r12_machine_step n) Q:=by
 obtain ⟨s1,s2,s3,s4⟩:=snoc26 A top
 have hlen:(n.acts.length:Int)- 1=(A.length:Int):=by rw [hacts];exact s1
 have hll:n.acts.length=A.length+1:=by rw [hacts];simp
 have htop:atD n.acts (A.length:Int)=top:=by rw [hacts];exact s2
 have hset:∀x,setD n.acts (A.length:Int) x=A++[x]:=fun x=>by rw [hacts];exact s4 x
 have hset2:∀u x:R12activation,setD (A++[u]) (A.length:Int) x=A++[x]:=fun u x=>(snoc26 A u).2.2.2 x
 have hat2:∀u:R12activation,atD (A++[u]) (A.length:Int)=u:=fun u=>(snoc26 A u).2.1
 have hlen2:∀u:R12activation,((A++[u]).length:Int)=(A.length:Int)+1:=fun u=>by simp
 unfold r12_machine_step
 rw [hlen,htop]
 simp only [hset,hset2,hat2,hlen2,hz]
 refine WP.chk ⟨by omega,by omega⟩ fun _=>WP.chk (by omega) fun _=>WP.chk ⟨by omega,by omega⟩ fun _=>WP.chk hf fun _=>WP.chk ⟨by omega,by omega⟩ fun _=>WP.chk hat fun _=>WP.chk ⟨by omega,by omega⟩ fun _=>WP.chk ⟨by omega,by omega⟩ fun _=>WP.chk ⟨by have:=hat.1;omega,by have:=hat.2;omega⟩ fun _=>WP.chk ⟨by omega,by omega⟩ fun _=>?_
 have e20:∀u:Int,(if z.Op=20 then z.A else top.at_+1)=u→(z.Op=21→(n.regs.at_ z.A).Lo=0)→u=nextAt z n.regs top.at_:=fun u hu h0=>by
  unfold nextAt
  rw [←hu]
  by_cases q:z.Op=20
  ·rw [if_pos q,if_pos q]
  ·rw [if_neg q,if_neg q]
   by_cases q2:z.Op=21
   ·rw [if_pos q2,if_pos (h0 q2)]
   ·rw [if_neg q2]
 refine WP.join (fun l1=>l1=A++[⟨top.f,if z.Op=20 then z.A else top.at_+1⟩]) ?_ fun k hk=>?_
 rotate_left
 ·refine WP.bif (fun w=>?_) (fun w=>?_)
  ·have e:z.Op=20:=by simpa using w
   exact WP.chk ⟨by omega,by omega⟩ fun _=>hk _ (by rw [if_pos e])
  ·have e:¬z.Op=20:=by simpa using w
   exact hk _ (by rw [if_neg e])
 rintro _ rfl
 refine WP.join (fun l2=>l2=A++[⟨top.f,nextAt z n.regs top.at_⟩]) ?_ fun k hk=>?_
 rotate_left
 ·refine WP.bif (fun w=>?_) (fun w=>?_)
  ·have e:z.Op=21:=by simpa using w
   refine WP.chk (h21 e) fun _=>?_
   refine WP.bif (fun w2=>?_) (fun w2=>?_)
   ·have e2:¬(n.regs.at_ z.A).Lo=0:=by simpa using w2
    refine WP.chk ⟨by omega,by rw [hlen2];omega⟩ fun _=>hk _ ?_
    have en:nextAt z n.regs top.at_=z.B:=by
     unfold nextAt
     rw [if_neg (by omega),if_pos e,if_neg e2]
    rw [hset2,hat2,en]
   ·have e2:(n.regs.at_ z.A).Lo=0:=by simpa using w2
    exact hk _ (by rw [e20 _ rfl fun _=>e2])
  ·have e:¬z.Op=21:=by simpa using w
   exact hk _ (by rw [e20 _ rfl fun q=>absurd q e])
 rintro _ rfl
 refine WP.join (fun b:Bool=>b=decide (z.Op=20∨z.Op=21)) ?_ fun k hk=>?_
 rotate_left
 ·refine WP.bif (fun w=>?_) (fun w=>?_)
  ·have e:z.Op=20:=by simpa using w
   exact hk _ (by simp [e])
  ·have e:¬z.Op=20:=by simpa using w
   exact hk _ (by simp [e])
 rintro _ rfl
 exact h
def headT (n:R12machine) (A:List R12activation) (top:R12activation) (x:AInstr):R12machine:=⟨n.t,n.regs,A++[⟨top.f,nextAt x n.regs top.at_⟩],n.stack,n.first,n.deep,n.input,n.done,stepO n.out⟩
def withS (n:R12machine) (s:AStack):R12machine:=⟨n.t,n.regs,n.acts,s,n.first,n.deep,n.input,n.done,n.out⟩
def withR (n:R12machine) (r:Arr8AValue):R12machine:=⟨n.t,r,n.acts,n.stack,n.first,n.deep,n.input,n.done,n.out⟩
structure TRes (l:List ALayout) (y:ALayout) (sl:List ASlot) (n1:R12machine) (A:List R12activation) (top:R12activation) (x:AInstr) (n':R12machine):Prop where
 jmp:x.Op=20∨x.Op=21→n'=n1
 call:x.Op=22→∃s' d,PushP n1.stack s' (atD l x.A).Size∧n'=⟨n1.t,n1.regs,n1.acts++[⟨x.A,0⟩],s',n1.first,d,n1.input,n1.done,n1.out⟩
 ret:x.Op=23→n'=(if A=[] then ⟨n1.t,n1.regs,A,⟨n1.stack.Bytes,n1.stack.Used,n1.stack.SP+y.Size⟩,n1.first,n1.deep,n1.input,true,⟨0,n1.out.Code,n1.regs.e0,n1.out.Trace,n1.out.Steps⟩⟩ else ⟨n1.t,n1.regs,A,⟨n1.stack.Bytes,n1.stack.Used,n1.stack.SP+y.Size⟩,n1.first,n1.deep,n1.input,n1.done,n1.out⟩)
 trap:x.Op=24→n'=⟨n1.t,n1.regs,n1.acts,n1.stack,n1.first,n1.deep,n1.input,true,⟨1,x.Imm,n1.out.Result,n1.out.Trace,n1.out.Steps⟩⟩
 load:x.Op=15→RgtS n1.stack (atD y.Off x.B) (atD sl x.B).Size∧(UsedS n1.stack (atD y.Off x.B) (atD sl x.B).Size→n'=withR n1 (n1.regs.set x.A (fromB (cutS n1.stack (atD y.Off x.B) (atD sl x.B).Size))))∧(¬UsedS n1.stack (atD y.Off x.B) (atD sl x.B).Size→n'=endT n1 3)
 store:x.Op=16→RgtS n1.stack (atD y.Off x.A) (atD sl x.A).Size∧∃s',StoreP n1.stack s' (atD y.Off x.A) (atD sl x.A).Size (n1.regs.at_ x.B)∧n'=withS n1 s'
 move:x.Op=17→RgtS n1.stack (atD y.Off x.A) (atD sl x.A).Size∧RgtS n1.stack (atD y.Off x.B) (atD sl x.A).Size∧(UsedS n1.stack (atD y.Off x.B) (atD sl x.A).Size→∃s',StoreP n1.stack s' (atD y.Off x.A) (atD sl x.A).Size (fromB (cutS n1.stack (atD y.Off x.B) (atD sl x.A).Size))∧n'=withS n1 s')∧(¬UsedS n1.stack (atD y.Off x.B) (atD sl x.A).Size→n'=endT n1 3)
 arg:x.Op=18→RgtS n1.stack (16*x.A) 16∧∃s',StoreP n1.stack s' (16*x.A) 16 (n1.regs.at_ x.B)∧n'=withS n1 s'
 param:x.Op=19→RgtS n1.stack (y.Size+16*x.B) 16∧(UsedS n1.stack (y.Size+16*x.B) 16→n'=withR n1 (n1.regs.set x.A (fromB (cutS n1.stack (y.Size+16*x.B) 16))))∧(¬UsedS n1.stack (y.Size+16*x.B) 16→n'=endT n1 3)
 plain:x.Op≤14→n'=(if (plainF x n1.regs n1.input n1.out.Trace).2.2.2=true then ⟨n1.t,(plainF x n1.regs n1.input n1.out.Trace).1,n1.acts,n1.stack,n1.first,n1.deep,(plainF x n1.regs n1.input n1.out.Trace).2.1,true,⟨2,n1.out.Code,n1.out.Result,(plainF x n1.regs n1.input n1.out.Trace).2.2.1,n1.out.Steps⟩⟩ else ⟨n1.t,(plainF x n1.regs n1.input n1.out.Trace).1,n1.acts,n1.stack,n1.first,n1.deep,(plainF x n1.regs n1.input n1.out.Trace).2.1,n1.done,⟨n1.out.Kind,n1.out.Code,n1.out.Result,(plainF x n1.regs n1.input n1.out.Trace).2.2.1,n1.out.Steps⟩⟩)
section
variable {p:AProgram} {al:Int} {l:List ALayout} {t:ATarget} {O:Int→List (List Int)}
theorem TgtS.sizes (E:SetP p al l t O) {n:R12machine} {A:List R12activation} {top:R12activation} (h:TgtS p l t n A top):(A.length+1≤4)∧(∀f∈n.acts.map (·.f),inN f p.Funcs.length)∧n.stack.SP=4096- sumZ l (A.map (·.f))- (atD l top.f).Size∧0≤sumZ l (A.map (·.f))∧sumZ l (A.map (·.f))≤1000*A.length∧0≤(atD l top.f).Size∧(atD l top.f).Size≤1000:=by
 have hm:∀f∈n.acts.map (·.f),inN f p.Funcs.length:=fun f hf=>by
  obtain ⟨a,ha,rfl⟩:=List.mem_map.1 hf
  exact (h.all a ha).1
 have hl:=asc_few h.inc hm
 have hlen:(n.acts.map (·.f)).length=A.length+1:=by rw [List.length_map,h.acts];simp
 have hsm:∀f,inN f p.Funcs.length→0≤(atD l f).Size∧(atD l f).Size≤1000:=fun f hf=>by
  have:=(E.acc f hf).small E.wf hf E.hal
  exact ⟨this.1,this.2.1⟩
 have hsp:=h.sp
 rw [h.acts,List.map_append,sumZ_append] at hsp
 have e1:sumZ l ([top].map (·.f))=(atD l top.f).Size:=by simp [sumZ]
 rw [e1] at hsp
 have hb:=sumZ_bound (l:=l) (fs:=A.map (·.f)) fun f hf=>hsm f (hm f (by rw [h.acts,List.map_append];exact List.mem_append_left _ hf))
 rw [List.length_map] at hb
 have ht:=hsm top.f (hm _ (by rw [h.acts];simp))
 have:=E.few
 exact ⟨by omega,hm,by omega,hb.1,hb.2,ht.1,ht.2⟩
theorem low_same {f:AFunc} {y:ALayout} {x:AInstr} (h:x.Op<15∨19<x.Op):lowI f y x=x:=by
 unfold lowI
 rw [if_neg (by omega),if_neg (by omega),if_neg (by omega),if_neg (by omega),if_neg (by omega)]
theorem low_21 {f:AFunc} {y:ALayout} {x:AInstr} (h:(lowI f y x).Op=21):x.Op=21∧lowI f y x=x:=by
 unfold lowI at*
 by_cases h1:x.Op=15
 ·rw [if_pos h1] at h;exact absurd h (by simp)
 rw [if_neg h1] at h ⊢
 by_cases h2:x.Op=16
 ·rw [if_pos h2] at h;exact absurd h (by simp)
 rw [if_neg h2] at h ⊢
 by_cases h3:x.Op=17
 ·rw [if_pos h3] at h;exact absurd h (by simp)
 rw [if_neg h3] at h ⊢
 by_cases h4:x.Op=18
 ·rw [if_pos h4] at h;exact absurd h (by simp)
 rw [if_neg h4] at h ⊢
 by_cases h5:x.Op=19
 ·rw [if_pos h5] at h;exact absurd h (by simp)
 rw [if_neg h5] at h ⊢
 exact ⟨h,rfl⟩
theorem WfI.reg21 {n i par:Int} {sl:List ASlot} {J:Int→Prop} {x:AInstr} (h:WfI n i par sl J x) (e:x.Op=21):reg x.A:=by
 cases h<;>simp only at e<;>first| (exfalso;omega)| assumption
theorem nextAt_low {n i par:Int} {sl:List ASlot} {J:Int→Prop} {x:AInstr} (h:WfI n i par sl J x) (f:AFunc) (y:ALayout) (r:Arr8AValue) (k:Int):nextAt (lowI f y x) r k=nextAt x r k:=by
 cases h with
 | arith o a b c h1 h2 ha hb hc=>
   have e:lowI f y ⟨o,a,b,c,0⟩=⟨o,a,b,c,0⟩:=by
    unfold lowI
    rw [if_neg (by dsimp only;omega),if_neg (by dsimp only;omega),if_neg (by dsimp only;omega),if_neg (by dsimp only;omega),if_neg (by dsimp only;omega)]
   rw [e]
 | copy o a b ho ha hb=>rcases ho with rfl| rfl<;>simp [lowI]
 | io o a ho ha=>rcases ho with rfl| rfl<;>simp [lowI]
 | _=>simp [lowI,nextAt]
theorem TgtS.caller (E:SetP p al l t O) {n:R12machine} {A:List R12activation} {top:R12activation} (h:TgtS p l t n A top) {k:Int} (hk:inN k (atD p.Funcs top.f).Params):∃A' c,A=A'++[c]∧16*k+16≤(atD l c.f).Args∧(atD l c.f).Args≤(atD l c.f).Size:=by
 have hne:A≠[]:=fun h0=>by
  have h1:=h.fst
  rw [h.acts,h0] at h1
  have h2:top.f=0:=h1
  rw [h2,E.wf.entry] at hk
  have:=hk.1;have:=hk.2;omega
 obtain ⟨A',c,hA⟩:=(List.eq_nil_or_concat A).resolve_left hne
 rw [List.concat_eq_append] at hA
 subst hA
 obtain ⟨q1,q2,q3⟩:=h.link A' c top [] (by rw [h.acts];simp)
 have hc:=h.all c (by rw [h.acts];simp)
 have hS:=(E.acc c.f hc.1).shape
 have hin:inN (c.at_- 1) (atD p.Funcs c.f).Code.length:=⟨q1,by have:=hc.2.2;omega⟩
 have hm:=atD_mem (l:=(atD p.Funcs c.f).Code) hin
 have hA:=(argsN_R E.wf hc.1 (l:=(atD p.Funcs c.f).Code) fun x hx=>hx).2.2.1 _ hm
 have hn:needA p (atD (atD p.Funcs c.f).Code (c.at_- 1))=(atD p.Funcs top.f).Params:=by
  unfold needA
  rw [if_neg (by omega),if_pos q2,q3]
 rw [hn] at hA
 have h1:=hS.args
 have h2:=hS.sz.1
 exact ⟨A',c,rfl,by have:=hk.2;omega,h2⟩
theorem plainT (n:R12machine) (z:AInstr) (hz:PlainI z) (hr:regR n.regs) (hi:n.input.length≤1000) (ht:n.out.Trace.length≤1000):WP (tailT n z) (·=if (plainF z n.regs n.input n.out.Trace).2.2.2=true then ⟨n.t,(plainF z n.regs n.input n.out.Trace).1,n.acts,n.stack,n.first,n.deep,(plainF z n.regs n.input n.out.Trace).2.1,true,⟨2,n.out.Code,n.out.Result,(plainF z n.regs n.input n.out.Trace).2.2.1,n.out.Steps⟩⟩ else ⟨n.t,(plainF z n.regs n.input n.out.Trace).1,n.acts,n.stack,n.first,n.deep,(plainF z n.regs n.input n.out.Trace).2.1,n.done,⟨n.out.Kind,n.out.Code,n.out.Result,(plainF z n.regs n.input n.out.Trace).2.2.1,n.out.Steps⟩⟩):=by
 have ho:0≤z.Op∧z.Op≤14:=by rcases hz with h| h| h| h<;>omega
 unfold tailT
 refine WP.bif (fun w=>by simp at w;omega) fun _=>WP.bif (fun w=>by simp at w;omega) fun _=>WP.bif (fun w=>by simp at w;omega) fun _=>WP.bif (fun w=>by simp at w;omega) fun _=>?_
 refine WP.call (plain12_mem n z (by omega)) ?_
 rintro _ rfl
 refine WP.bif (fun w=>by cases w) fun _=>?_
 refine WP.call (plain08_sp z n.regs n.input n.out.Trace hz hr hi ht) ?_
 rintro _ rfl
 refine WP.bif (fun w=>?_) fun w=>?_
 ·have w':(plainF z n.regs n.input n.out.Trace).2.2.2=true:=w
  rw [if_pos w']
  refine WP.call (end12_sp _ _) ?_
  rintro _ rfl
  exact WP.ret rfl
 ·have w':¬(plainF z n.regs n.input n.out.Trace).2.2.2=true:=by
   have w2:(plainF z n.regs n.input n.out.Trace).2.2.2=false:=w
   rw [w2];exact Bool.false_ne_true
  rw [if_neg w']
  exact WP.ret rfl
theorem t_step (E:SetP p al l t O) {n:R12machine} {A:List R12activation} {top:R12activation} (h:TgtS p l t n A top) {x:AInstr} (hx:x=atD (atD p.Funcs top.f).Code top.at_):WP (r12_machine_step n) (TRes l (atD l top.f) (atD p.Funcs top.f).Slots (headT n A top x) A top x):=by
 obtain ⟨z1,z2,z3,z4,z5,z6,z7⟩:=h.sizes E
 have hT:=h.all top (by rw [h.acts];simp)
 have wF:=E.wf.func _ hT.1.1 hT.1.2
 have wI:=E.wf.instrAt hT.1 hT.2
 rw [←hx] at wI
 have hS:=(E.acc top.f hT.1).shape
 have eF:=E.low.fr top.f hT.1
 have hlow:=E.low.len
 have hcode:=wF.code
 have hcl:(atD t.Frames top.f).Code.length=(atD p.Funcs top.f).Code.length:=by rw [eF];simp [lowF]
 have eZ:atD (atD n.t.Frames top.f).Code top.at_=lowI (atD p.Funcs top.f) (atD l top.f) x:=by
  rw [h.tgt,eF,hx]
  exact map_at (lowI (atD p.Funcs top.f) (atD l top.f)) hT.2
 have hplace:=fun s (hs:inN s (atD p.Funcs top.f).Slots.length)=>hS.place E.wf hT.1 hs
 have hright:=fun s (hs:inN s (atD p.Funcs top.f).Slots.length)=>(wF.rightS _ (atD_mem hs)).1
 have hrs:∀s,inN s (atD p.Funcs top.f).Slots.length→RgtS n.stack (atD (atD l top.f).Off s) (atD (atD p.Funcs top.f).Slots s).Size:=fun s hs=>by
  have h1:=hplace s hs
  exact ⟨hright s hs,by omega,by rw [h.blen];omega⟩
 refine tail_sp h.acts (by omega) ⟨by have:=hT.1.1;omega,by rw [h.tgt,hlow];exact hT.1.2⟩ ⟨hT.2.1,by rw [h.tgt,hcl];exact hT.2.2⟩ (by rw [h.tgt,hcl];omega) eZ h.steps (fun e=>?_) ?_
 ·obtain ⟨e1,e2⟩:=low_21 e
  rw [e2];exact wI.reg21 e1
 rw [nextAt_low wI]
 have hfrm:∀i,inN i p.Funcs.length→(atD t.Frames i).Size=(atD l i).Size:=fun i hi=>by rw [E.low.fr i hi];rfl
 have hinF:∀i,inN i p.Funcs.length→inN i (headT n A top x).t.Frames.length:=fun i hi=>⟨hi.1,by show i<(n.t.Frames.length:Int);rw [h.tgt,hlow];exact hi.2⟩
 have hszF:∀i,inN i p.Funcs.length→(atD (headT n A top x).t.Frames i).Size=(atD l i).Size:=fun i hi=>by show (atD n.t.Frames i).Size=_;rw [h.tgt];exact hfrm i hi
 have hmem:∀{z:AInstr} {K:Bool × R12machine→Prop},15≤z.Op→z.Op≤17→WP (r12_machine_memory (headT n A top x) z) (fun r=>r.1=true∧K r)→WP (tailT (headT n A top x) z) fun n'=>K (true,n'):=fun {z K} h1 h2 hw=>by
  unfold tailT
  refine WP.bif (fun w=>by simp at w;omega) fun _=>WP.bif (fun w=>by simp at w;omega) fun _=>WP.bif (fun w=>by simp at w;omega) fun _=>WP.bif (fun w=>by simp at w;omega) fun _=>?_
  refine WP.call hw fun r ⟨r1,r2⟩=>?_
  obtain ⟨ra,rb⟩:=r
  dsimp only at r1 r2 ⊢
  subst r1
  exact WP.bif (fun _=>WP.ret r2) fun w=>by cases w
 show WP (tailT (headT n A top x) _) _
 have hx':=hx
 clear hx eZ
 have hplain:∀{z:AInstr},PlainI z→lowI (atD p.Funcs top.f) (atD l top.f) z=z→WP (tailT (headT n A top z) (lowI (atD p.Funcs top.f) (atD l top.f) z)) (TRes l (atD l top.f) (atD p.Funcs top.f).Slots (headT n A top z) A top z):=fun {z} hz e=>by
  have hst:=h.steps
  have htr:=h.tr
  have ho:0≤z.Op∧z.Op≤14:=by rcases hz with h| h| h| h<;>omega
  rw [e]
  refine (plainT (headT n A top z) z hz h.regs h.inl (by show n.out.Trace.length≤1000;omega)).mono fun n' hn=>?_
  exact ⟨fun _=>by exfalso;omega,fun _=>by exfalso;omega,fun _=>by exfalso;omega,fun _=>by exfalso;omega,fun _=>by exfalso;omega,fun _=>by exfalso;omega,fun _=>by exfalso;omega,fun _=>by exfalso;omega,fun _=>by exfalso;omega,fun _=>hn⟩
 cases wI with
 | load a s ha hs=>
   have hR:=hrs s hs
   refine (hmem (z:=lowI _ _ ⟨15,a,s,0,0⟩) (by simp [lowI]) (by simp [lowI]) (load12_sp (headT n A top _) _ (by simp [lowI]) (by simpa [lowI] using ha) h.stk hR)).mono fun n' hn=>?_
   simp only [lowI,if_true] at hn
   constructor
   all_goals intro e
   all_goals first| (exfalso;simp at e;done)| (exfalso;dsimp only at e;omega)| skip
   exact ⟨hR,hn.1,hn.2⟩
 | store s a hs ha=>
   have hR:=hrs s hs
   refine (hmem (z:=lowI _ _ ⟨16,s,a,0,0⟩) (by simp [lowI]) (by simp [lowI]) (store12_sp (headT n A top _) _ (by simp [lowI]) (by simpa [lowI] using ha) h.regs h.stk hR)).mono fun n' hn=>?_
   simp [lowI] at hn
   constructor
   all_goals intro e
   all_goals first| (exfalso;simp at e;done)| (exfalso;dsimp only at e;omega)| skip
   exact ⟨hR,hn⟩
 | move s s' hs hs' he=>
   have hR:=hrs s hs
   have hR':=hrs s' hs'
   rw [←he] at hR'
   refine (hmem (z:=lowI _ _ ⟨17,s,s',0,0⟩) (by simp [lowI]) (by simp [lowI]) (move12_sp (headT n A top _) _ (by simp [lowI]) h.stk hR hR')).mono fun n' hn=>?_
   simp [lowI] at hn
   constructor
   all_goals intro e
   all_goals first| (exfalso;simp at e;done)| (exfalso;dsimp only at e;omega)| skip
   exact ⟨hR,hR',hn.1,hn.2⟩
 | arg a r ha hr=>
   have hm:=atD_mem (l:=(atD p.Funcs top.f).Code) hT.2
   have hA:=(argsN_R E.wf hT.1 (l:=(atD p.Funcs top.f).Code) fun x hx=>hx).2.2.1 _ hm
   rw [←hx'] at hA
   have hn:needA p ⟨18,a,r,0,0⟩=a+1:=by simp [needA]
   rw [hn] at hA
   have h1:=hS.args
   have h2:=hS.sz.1
   have hR:RgtS n.stack (16*a) 16:=⟨by unfold sizeR;omega,by have:=ha.1;omega,by rw [h.blen];omega⟩
   refine (hmem (z:=lowI _ _ ⟨18,a,r,0,0⟩) (by simp [lowI]) (by simp [lowI]) (store12_sp (headT n A top _) _ (by simp [lowI]) (by simpa [lowI] using hr) h.regs h.stk hR)).mono fun n' hn=>?_
   simp [lowI] at hn
   constructor
   all_goals intro e
   all_goals first| (exfalso;simp at e;done)| (exfalso;dsimp only at e;omega)| skip
   exact ⟨hR,hn⟩
 | param a k ha hk=>
   obtain ⟨A',c,eA,c1,c2⟩:=h.caller E hk
   have e1:sumZ l (A.map (·.f))=sumZ l (A'.map (·.f))+(atD l c.f).Size:=by
    rw [eA,List.map_append,sumZ_append];simp [sumZ]
   have hb:=sumZ_bound (l:=l) (fs:=A'.map (·.f)) fun f hf=>(by
    have hin:=z2 f (by rw [h.acts,eA,List.map_append,List.map_append];exact List.mem_append_left _ (List.mem_append_left _ hf))
    have:=(E.acc f hin).small E.wf hin E.hal
    exact ⟨this.1,this.2.1⟩)
   have hR:RgtS n.stack ((atD l top.f).Size+16*k) 16:=⟨by unfold sizeR;omega,by have:=hk.1;omega,by rw [h.blen];omega⟩
   refine (hmem (z:=lowI _ _ ⟨19,a,k,0,0⟩) (by simp [lowI]) (by simp [lowI]) (load12_sp (headT n A top _) _ (by simp [lowI]) (by simpa [lowI] using ha) h.stk hR)).mono fun n' hn=>?_
   simp [lowI] at hn
   constructor
   all_goals intro e
   all_goals first| (exfalso;simp at e;done)| (exfalso;dsimp only at e;omega)| skip
   exact ⟨hR,hn.1,hn.2⟩
 | const a w ha hw=>exact hplain (.inl ⟨rfl,ha,hw⟩) (low_same (.inl (by dsimp only;omega)))
 | copy o a b ho ha hb=>exact hplain (.inr (.inl ⟨ho,ha,hb⟩)) (low_same (.inl (by dsimp only;omega)))
 | arith o a b c h1 h2 ha hb hc=>exact hplain (.inr (.inr (.inl ⟨h1,h2,ha,hb,hc⟩))) (low_same (.inl (by dsimp only;omega)))
 | io o a ho ha=>exact hplain (.inr (.inr (.inr ⟨ho,ha⟩))) (low_same (.inl (by dsimp only;omega)))
 | jump j hj=>
   rw [low_same (.inr (by dsimp only;omega))]
   unfold tailT
   refine WP.bif (fun _=>WP.ret ?_) fun w=>by simp at w
   constructor
   all_goals intro e
   all_goals first| (exfalso;simp at e;done)| (exfalso;dsimp only at e;omega)| skip
   rfl
 | branch a j ha hj=>
   rw [low_same (.inr (by dsimp only;omega))]
   unfold tailT
   refine WP.bif (fun _=>WP.ret ?_) fun w=>by simp at w
   constructor
   all_goals intro e
   all_goals first| (exfalso;simp at e;done)| (exfalso;dsimp only at e;omega)| skip
   rfl
 | call f h1 h2=>
   rw [low_same (.inr (by dsimp only;omega))]
   unfold tailT
   have hf:inN f p.Funcs.length:=⟨by have:=hT.1.1;omega,h2⟩
   have hsm:=(E.acc f hf).small E.wf hf E.hal
   have hl:=asc_few (fs:=n.acts.map (·.f)++[f]) (m:=p.Funcs.length) (List.pairwise_append.2 ⟨h.inc,by simp,fun a ha b hb=>by
    have e:b=f:=by simpa using hb
    subst e
    have hi:=h.inc
    rw [h.acts,List.map_append] at ha hi
    rcases List.mem_append.1 ha with h3| h3
    ·have h4:=(List.pairwise_append.1 hi).2.2 a h3 top.f (by simp)
     omega
    ·have e:a=top.f:=by simpa using h3
     omega⟩) fun g hg=>by
     rcases List.mem_append.1 hg with h3| h3
     ·exact z2 g h3
     ·have e:g=f:=by simpa using h3
      rw [e];exact hf
   have hl2:(n.acts.map (·.f)++[f]).length=A.length+2:=by rw [h.acts];simp
   have:=E.few
   refine WP.bif (fun w=>by simp at w) fun _=>WP.bif (fun _=>?_) fun w=>by simp at w
   refine WP.call (enter12_sp (headT n A top ⟨22,f,0,0,0⟩) f (hinF f hf) h.stk ?_ ?_ ?_) fun r hr=>WP.ret ?_
   ·rw [hszF f hf]
    refine ⟨hsm.1,?_⟩
    show (atD l f).Size≤n.stack.SP
    omega
   ·show 0≤n.first∧n.first≤100000
    rw [h.first];omega
   ·show (A++[_]).length≤1000
    simp;omega
   rw [hszF f hf] at hr
   constructor
   all_goals intro e
   all_goals first| (exfalso;simp at e;done)| (exfalso;dsimp only at e;omega)| skip
   exact hr
 | ret=>
   rw [low_same (.inr (by dsimp only;omega))]
   unfold tailT
   refine WP.bif (fun w=>by simp at w) fun _=>WP.bif (fun w=>by simp at w) fun _=>WP.bif (fun _=>?_) fun w=>by simp at w
   refine WP.call (leave12_sp (headT n A top ⟨23,0,0,0,0⟩) A ⟨top.f,_⟩ rfl (by omega) (hinF _ hT.1) h.stk ?_) fun r hr=>WP.ret ?_
   ·rw [hszF _ hT.1]
    refine ⟨z6,?_⟩
    show n.stack.SP+(atD l top.f).Size≤n.stack.Bytes.length
    rw [h.blen];omega
   rw [hszF _ hT.1] at hr
   constructor
   all_goals intro e
   all_goals first| (exfalso;simp at e;done)| (exfalso;dsimp only at e;omega)| skip
   exact hr
 | trap w hw=>
   rw [low_same (.inr (by dsimp only;omega))]
   unfold tailT
   refine WP.bif (fun w=>by simp at w) fun _=>WP.bif (fun w=>by simp at w) fun _=>WP.bif (fun w=>by simp at w) fun _=>WP.bif (fun _=>?_) fun w=>by simp at w
   refine WP.call (end12_sp _ _) ?_
   rintro _ rfl
   refine WP.ret ?_
   constructor
   all_goals intro e
   all_goals first| (exfalso;simp at e;done)| (exfalso;dsimp only at e;omega)| skip
   rfl
end
theorem nextAt_mem {f:AFunc} {k:Int} (hk:inN k f.Code.length) {x:AInstr} (hx:x=atD f.Code k) (r:Arr8AValue) (h:¬(x.Op=23∨x.Op=24)):nextAt x r k∈nextS f k:=by
 have h1:=hk.1
 have h2:=hk.2
 unfold nextAt nextS
 rw [if_neg (c:=k<0∨(f.Code.length:Int)≤k) (by omega),←hx]
 by_cases e:x.Op=20
 ·rw [if_pos e,if_pos e];simp
 rw [if_neg e,if_neg e,if_neg h]
 by_cases e1:x.Op=21
 ·rw [if_pos e1,if_pos e1]
  by_cases e2:(r.at_ x.A).Lo=0
  ·rw [if_pos e2]
   by_cases q:x.B<k+1
   ·rw [if_pos q];simp
   ·rw [if_neg q]
    by_cases q2:k+1<x.B
    ·rw [if_pos q2];simp
    ·rw [if_neg q2];simp
  ·rw [if_neg e2]
   by_cases q:x.B<k+1
   ·rw [if_pos q];simp
   ·rw [if_neg q]
    by_cases q2:k+1<x.B
    ·rw [if_pos q2];simp
    ·rw [if_neg q2]
     have:x.B=k+1:=by omega
     simp [this]
 ·rw [if_neg e1,if_neg e1];simp
theorem SrcP.upd {p:AProgram} {m:R08machine} {A:List R08activation} {top:R08activation} (h:SrcP p m A top) {regs:Arr8AValue} {t:R08activation} {input:List Int} {deep:Int} {out:AOutcome} (ht:ActP p t) (hf:t.f=top.f) (hr:regR regs) (hi:∀z∈input,wordR z) (hl:input.length≤m.input.length) (hs:out.Steps=m.out.Steps+1) (h5:m.out.Steps≤499) (htr:out.Trace.length≤m.out.Trace.length+1):SrcP p ⟨p,regs,A++[t],input,deep,false,out⟩ A t:=by
 have q1:=h.inl
 have q2:=h.steps
 have q3:=h.tr
 have em:(A++[t]).map (·.f)=m.acts.map (·.f):=by rw [h.acts];simp [hf]
 refine ⟨rfl,rfl,hr,fun a ha=>?_,?_,?_,hi,by show input.length≤1000;omega,by show 0≤out.Steps∧out.Steps≤500;omega,by show (out.Trace.length:Int)≤out.Steps;omega,rfl⟩
 ·rcases List.mem_append.1 ha with q| q
  ·exact h.all a (by rw [h.acts];exact List.mem_append_left _ q)
  ·have e:a=t:=by simpa using q
   rw [e];exact ht
 ·show ((A++[t]).map (·.f)).Pairwise (·<·)
  rw [em];exact h.inc
 ·show (atD (A++[t]) 0).f=0
  have h1:=h.fst
  rw [h.acts] at h1
  cases A with
  | nil=>show t.f=0;rw [hf];exact h1
  | cons a r=>exact h1
def OverS (d:Bool) (k:Int):Prop:=d=true∧0≤k∧k≤3
def SrcG (p:AProgram) (m:R08machine):Prop:=(∃A top,SrcP p m A top)∨OverS m.done m.out.Kind
theorem memF_next {p:AProgram} {m:R08machine} {A:List R08activation} {top t1:R08activation} (h:SrcP p m A top) (h5:m.out.Steps≤499) (ht1:ActP p t1) (hf1:t1.f=top.f) {x:AInstr} (hA:x.Op=16→valR (truncV (m.regs.at_ x.B) (atD (atD p.Funcs t1.f).Slots x.A).Size)) (h19:x.Op=19→∀c∈(atD A ((A.length:Int)- 1)).args,valR c.v) (h8:x.Op=19→inN x.B (atD A ((A.length:Int)- 1)).args.length) (h15:x.Op=15∨x.Op=17→inN x.B t1.slots.length) (ho:15≤x.Op∧x.Op≤19):
 SrcG p (memF ⟨p,m.regs,A++[t1],m.input,m.deep,m.done,stepO m.out⟩ A t1 x):=by
 have hrun:=h.run
 have hset:∀{l:List R08cell} (k:Int) (c:R08cell),(∀c∈l,valR c.v)→valR c.v→∀d∈setD l k c,valR d.v:=fun {l} k c h1 h2 d hd=>by
  unfold setD at hd
  rcases List.mem_or_eq_of_mem_set hd with q| q
  ·exact h1 d q
  ·rw [q];exact h2
 have hslen:∀{l:List R08cell} (k:Int) (c:R08cell),(setD l k c).length=l.length:=fun {l} k c=>by unfold setD;simp
 have upd:∀{regs:Arr8AValue} {t:R08activation},ActP p t→t.f=top.f→regR regs→SrcG p ⟨p,regs,A++[t],m.input,m.deep,m.done,stepO m.out⟩:=fun {regs t} q1 q2 q3=>by
  rw [hrun]
  exact .inl ⟨A,t,h.upd q1 q2 q3 h.inp (Nat.le_refl _) rfl h5 (Nat.le_succ _)⟩
 unfold memF
 dsimp only
 by_cases e16:x.Op=16
 ·rw [if_pos e16]
  exact upd ⟨ht1.f,ht1.at_,by dsimp only;rw [hslen];exact ht1.sl,ht1.ar,hset _ _ ht1.slv (hA e16),ht1.arv⟩ hf1 h.regs
 rw [if_neg e16]
 by_cases e18:x.Op=18
 ·rw [if_pos e18]
  exact upd ⟨ht1.f,ht1.at_,ht1.sl,by dsimp only;rw [hslen];exact ht1.ar,ht1.slv,hset _ _ ht1.arv (h.regs _)⟩ hf1 h.regs
 rw [if_neg e18]
 have hc:valR (if x.Op=19 then atD (atD A ((A.length:Int)- 1)).args x.B else atD t1.slots x.B).v:=by
  by_cases e19:x.Op=19
  ·rw [if_pos e19];exact h19 e19 _ (atD_mem (h8 e19))
  ·rw [if_neg e19];exact ht1.slv _ (atD_mem (h15 (by omega)))
 generalize (if x.Op=19 then atD (atD A ((A.length:Int)- 1)).args x.B else atD t1.slots x.B)=c at hc ⊢
 by_cases ec:c.ok=true
 ·rw [if_neg (by simpa using ec)]
  by_cases e17:x.Op=17
  ·rw [if_pos e17]
   exact upd ⟨ht1.f,ht1.at_,by dsimp only;rw [hslen];exact ht1.sl,ht1.ar,hset _ _ ht1.slv hc,ht1.arv⟩ hf1 h.regs
  ·rw [if_neg e17]
   exact upd ht1 hf1 (h.regs.set hc _)
 ·rw [if_pos ec]
  exact .inr ⟨rfl,by show (0:Int)≤3;decide,by show (3:Int)≤3;decide⟩
theorem SrcP.prev {p:AProgram} (hp:WfP p) {m:R08machine} {A:List R08activation} {top:R08activation} (h:SrcP p m A top) {k:Int} (hk:inN k (atD p.Funcs top.f).Params):1≤A.length∧ActP p (atD A ((A.length:Int)- 1))∧inN k 8:=by
 have hne:¬A=[]:=fun h0=>by
  have h1:=h.fst
  rw [h.acts,h0] at h1
  have h2:top.f=0:=h1
  rw [h2,hp.entry] at hk
  have:=hk.1;have:=hk.2;omega
 have hlen:1≤A.length:=by
  cases A with
  | nil=>exact absurd rfl hne
  | cons a r=>simp
 have hpar:=(hp.par _ (atD_mem h.topP.f)).2
 exact ⟨hlen,h.all _ (by rw [h.acts];exact List.mem_append_left _ (atD_mem ⟨by omega,by omega⟩)),hk.1,by have:=hk.2;omega⟩
theorem valR00:valR (default:R08cell).v:=⟨by show u64R 0;unfold u64R;simp,by show u64R 0;unfold u64R;simp⟩
theorem repD_val {n:Int}:∀c∈(repD n:List R08cell),valR c.v:=fun c hc=>by
 unfold repD at hc
 rw [List.eq_of_mem_replicate hc];exact valR00
theorem repD_len {n:Int}:((repD n:List R08cell).length)=n.toNat:=by unfold repD;simp
theorem src_next {p:AProgram} (hp:WfP p) {m:R08machine} {A:List R08activation} {top:R08activation} (h:SrcP p m A top) (h5:m.out.Steps≤499) {x:AInstr} (hx:x=atD (atD p.Funcs top.f).Code top.at_):SrcG p (srcF p m A top x):=by
 have hT:=h.topP
 have wF:=hp.func _ hT.f.1 hT.f.2
 have wI:=hp.instrAt hT.f hT.at_
 rw [←hx] at wI
 have hrun:=h.run
 have ht1:¬(x.Op=23∨x.Op=24)→ActP p ⟨top.f,nextAt x m.regs top.at_,top.slots,top.args⟩:=fun e=>⟨hT.f,(wF.next (nextAt_mem hT.at_ hx m.regs e)).2,hT.sl,hT.ar,hT.slv,hT.arv⟩
 have upd1:¬(x.Op=23∨x.Op=24)→∀d,SrcP p ⟨p,m.regs,A++[⟨top.f,nextAt x m.regs top.at_,top.slots,top.args⟩],m.input,d,m.done,stepO m.out⟩ A ⟨top.f,nextAt x m.regs top.at_,top.slots,top.args⟩:=fun e d=>by
  rw [hrun]
  exact h.upd (ht1 e) rfl h.regs h.inp (Nat.le_refl _) rfl h5 (Nat.le_succ _)
 unfold srcF
 dsimp only
 by_cases e20:x.Op=20∨x.Op=21
 ·rw [if_pos e20]
  exact .inl ⟨_,_,upd1 (by omega) _⟩
 rw [if_neg e20]
 by_cases e22:x.Op=22
 ·rw [if_pos e22]
  have hA:top.f<x.A∧x.A<p.Funcs.length:=by
   cases wI<;>simp only at e22<;>first| (exfalso;omega)| exact ⟨by assumption,by assumption⟩
  have hfA:inN x.A p.Funcs.length:=⟨by have:=hT.f.1;omega,hA.2⟩
  have wFA:=hp.func x.A hfA.1 hfA.2
  have hU:=upd1 (by omega) m.deep
  refine .inl ⟨_,_,⟨rfl,rfl,h.regs,fun a ha=>?_,?_,?_,h.inp,h.inl,hU.steps,hU.tr,hrun⟩⟩
  ·rcases List.mem_append.1 ha with q| q
   ·exact hU.all a q
   ·have e:a=⟨x.A,0,repD ((atD p.Funcs x.A).Slots.length:Int),repD 8⟩:=by simpa using q
    rw [e]
    exact ⟨hfA,⟨Int.le_refl 0,by have:=wFA.code.1;show (0:Int)<((atD p.Funcs x.A).Code.length:Int);omega⟩,by dsimp only;rw [repD_len];simp,by dsimp only;rw [repD_len];rfl,repD_val,repD_val⟩
  ·have hi:=hU.inc
   show (List.map (·.f) (A++[_]++[_])).Pairwise (·<·)
   rw [List.map_append]
   refine List.pairwise_append.2 ⟨hi,by simp,fun a ha b hb=>?_⟩
   have e:b=x.A:=by simpa using hb
   rw [e]
   have hi2:(List.map (·.f) A++[top.f]).Pairwise (·<·):=by
    have:=h.inc
    rw [h.acts,List.map_append] at this
    exact this
   rw [List.map_append] at ha
   rcases List.mem_append.1 ha with q| q
   ·have:=(List.pairwise_append.1 hi2).2.2 a q top.f (by simp)
    omega
   ·have e:a=top.f:=by simpa using q
    omega
  ·have:=hU.fst
   show (atD (A++[_]++[_]) 0).f=0
   cases A with
   | nil=>exact this
   | cons a r=>exact this
 rw [if_neg e22]
 by_cases e23:x.Op=23
 ·rw [if_pos e23]
  by_cases eA:A=[]
  ·rw [if_pos eA];exact .inr ⟨rfl,Int.le_refl 0,by show (0:Int)≤3;decide⟩
  ·rw [if_neg eA]
   obtain ⟨B,c,hB⟩:=(List.eq_nil_or_concat A).resolve_left eA
   rw [List.concat_eq_append] at hB
   refine .inl ⟨B,c,⟨rfl,hB,h.regs,fun a ha=>h.all a (by rw [h.acts];exact List.mem_append_left _ ha),?_,?_,h.inp,h.inl,?_,?_,hrun⟩⟩
   ·have:=h.inc
    rw [h.acts,List.map_append] at this
    exact (List.pairwise_append.1 this).1
   ·have:=h.fst
    rw [h.acts] at this
    show (atD A 0).f=0
    cases A with
    | nil=>exact absurd rfl eA
    | cons a r=>exact this
   ·have:=h.steps
    show 0≤m.out.Steps+1∧m.out.Steps+1≤500
    omega
   ·have:=h.tr
    show (m.out.Trace.length:Int)≤m.out.Steps+1
    omega
 rw [if_neg e23]
 by_cases e24:x.Op=24
 ·rw [if_pos e24]
  exact .inr ⟨rfl,by show (0:Int)≤1;decide,by show (1:Int)≤3;decide⟩
 rw [if_neg e24]
 have hop:0≤x.Op∧x.Op≤24:=by cases wI<;>dsimp only<;>omega
 by_cases e15:15≤x.Op
 ·rw [if_pos e15]
  refine memF_next h h5 (ht1 (by omega)) rfl (fun e=>?_) (fun e=>?_) (fun e=>?_) (fun e=>?_) ⟨e15,by omega⟩
  ·have hin:inN x.A (atD p.Funcs top.f).Slots.length:=by
    cases wI<;>simp only at e<;>first| (exfalso;omega)| assumption
   exact trunc_rng _ _ (h.regs _) (wF.rightS _ (atD_mem hin)).1
  ·have hk:inN x.B (atD p.Funcs top.f).Params:=by
    cases wI<;>simp only at e<;>first| (exfalso;omega)| assumption
   exact (h.prev hp hk).2.1.arv
  ·have hk:inN x.B (atD p.Funcs top.f).Params:=by
    cases wI<;>simp only at e<;>first| (exfalso;omega)| assumption
   have q:=h.prev hp hk
   rw [q.2.1.ar];exact q.2.2
  ·show inN x.B top.slots.length
   rw [hT.sl]
   cases wI<;>simp only at e<;>first| (exfalso;omega)| assumption
 rw [if_neg e15]
 have hpl:=wI.plain (by omega)
 obtain ⟨p1,p2,p3,p4⟩:=plainF_rng x m.regs m.input m.out.Trace hpl h.regs h.inp
 by_cases ez:(plainF x m.regs m.input m.out.Trace).2.2.2=true
 ·rw [if_pos ez]
  exact .inr ⟨rfl,by show (0:Int)≤2;decide,by show (2:Int)≤3;decide⟩
 ·rw [if_neg ez,hrun]
  exact .inl ⟨_,_,h.upd (ht1 (by omega)) rfl p1 p2 p3 rfl h5 p4⟩
theorem fromB_rng {b:List Int} (hb:bytesR b):valR (fromB b):=by
 have h1:=wordB_lt hb (i:=0) (Int.le_refl 0) 8 (Nat.le_refl _)
 have h2:=wordB_lt hb (i:=8) (by decide) 8 (Nat.le_refl _)
 have e:(2:Int) ^ (8*8)=18446744073709551616:=by decide
 rw [e] at h1 h2
 unfold fromB valR u64R
 exact ⟨⟨h1.1,by dsimp only;omega⟩,⟨h2.1,by dsimp only;omega⟩⟩
theorem cutS_rng {s:AStack} (hs:StkP s) (off n:Int):bytesR (cutS s off n):=fun z hz=>hs.by_ z (List.drop_subset _ _ (List.take_subset _ _ hz))
section
variable {p:AProgram} {al:Int} {l:List ALayout} {t:ATarget} {O:Int→List (List Int)}
def TgtG (p:AProgram) (l:List ALayout) (t:ATarget) (n:R12machine):Prop:=(∃A top,TgtS p l t n A top)∨OverS n.done n.out.Kind
theorem TgtS.upd {n:R12machine} {A:List R12activation} {top:R12activation} (h:TgtS p l t n A top) {regs:Arr8AValue} {u:R12activation} {st:AStack} {deep:Int} {input:List Int} {out:AOutcome} (hu:inN u.at_ (atD p.Funcs u.f).Code.length) (hf:u.f=top.f) (hr:regR regs) (hst:StkP st) (hb:st.Bytes.length=n.stack.Bytes.length) (hsp:st.SP=n.stack.SP) (hi:∀z∈input,wordR z) (hl:input.length≤n.input.length) (hs:out.Steps=n.out.Steps+1) (h5:n.out.Steps≤499) (htr:out.Trace.length≤n.out.Trace.length+1):TgtS p l t ⟨n.t,regs,A++[u],st,n.first,deep,input,n.done,out⟩ A u:=by
 have q1:=h.inl
 have q2:=h.steps
 have q3:=h.tr
 have hlk:=h.link
 rw [h.acts] at hlk
 have em:(A++[u]).map (·.f)=n.acts.map (·.f):=by rw [h.acts];simp [hf]
 have htop:=h.all top (by rw [h.acts];simp)
 refine ⟨h.tgt,rfl,hr,fun a ha=>?_,?_,?_,hlk.next hf,hi,by show input.length≤1000;omega,by show 0≤out.Steps∧out.Steps≤500;omega,by show (out.Trace.length:Int)≤out.Steps;omega,h.run,hst,by show st.Bytes.length=4096;rw [hb,h.blen],?_,h.first⟩
 ·rcases List.mem_append.1 ha with q| q
  ·exact h.all a (by rw [h.acts];exact List.mem_append_left _ q)
  ·have e:a=u:=by simpa using q
   rw [e];exact ⟨by rw [hf];exact htop.1,hu⟩
 ·show ((A++[u]).map (·.f)).Pairwise (·<·)
  rw [em];exact h.inc
 ·show (atD (A++[u]) 0).f=0
  have h1:=h.fst
  rw [h.acts] at h1
  cases A with
  | nil=>show u.f=0;rw [hf];exact h1
  | cons a r=>exact h1
 ·show st.SP=4096- sumZ l ((A++[u]).map (·.f))
  rw [em,hsp];exact h.sp
theorem tgt_next (E:SetP p al l t O) {n:R12machine} {A:List R12activation} {top:R12activation} (h:TgtS p l t n A top) (h5:n.out.Steps≤499) {x:AInstr} (hx:x=atD (atD p.Funcs top.f).Code top.at_) {n':R12machine} (hn:TRes l (atD l top.f) (atD p.Funcs top.f).Slots (headT n A top x) A top x n'):TgtG p l t n':=by
 obtain ⟨z1,z2,z3,z4,z5,z6,z7⟩:=h.sizes E
 have hT:=h.all top (by rw [h.acts];simp)
 have wF:=E.wf.func _ hT.1.1 hT.1.2
 have wI:=E.wf.instrAt hT.1 hT.2
 rw [←hx] at wI
 have hop:0≤x.Op∧x.Op≤24:=by cases wI<;>dsimp only<;>omega
 have hat:¬(x.Op=23∨x.Op=24)→inN (nextAt x n.regs top.at_) (atD p.Funcs top.f).Code.length:=fun e=>(wF.next (nextAt_mem hT.2 hx n.regs e)).2
 have updR:¬(x.Op=23∨x.Op=24)→∀{regs:Arr8AValue},regR regs→TgtG p l t ⟨n.t,regs,A++[⟨top.f,nextAt x n.regs top.at_⟩],n.stack,n.first,n.deep,n.input,n.done,stepO n.out⟩:=fun e {regs} hr=> .inl ⟨_,_,h.upd (hat e) rfl hr h.stk rfl rfl h.inp (Nat.le_refl _) rfl h5 (Nat.le_succ _)⟩
 have updS:¬(x.Op=23∨x.Op=24)→∀{s':AStack} {off k:Int} {v:AValue},StoreP n.stack s' off k v→valR v→TgtG p l t ⟨n.t,n.regs,A++[⟨top.f,nextAt x n.regs top.at_⟩],s',n.first,n.deep,n.input,n.done,stepO n.out⟩:=fun e {s' off k v} hs hv=> .inl ⟨_,_,h.upd (hat e) rfl h.regs (hs.stk h.stk) hs.bl hs.sp h.inp (Nat.le_refl _) rfl h5 (Nat.le_succ _)⟩
 have over3:∀{q:R12machine},n'=endT q 3→TgtG p l t n':=fun {q} e=>by
  rw [e];exact .inr ⟨rfl,by show (0:Int)≤3;decide,by show (3:Int)≤3;decide⟩
 have hval:∀off k,valR (fromB (cutS n.stack off k)):=fun off k=>fromB_rng (cutS_rng h.stk off k)
 by_cases e20:x.Op=20∨x.Op=21
 ·rw [hn.jmp e20];exact updR (by omega) h.regs
 by_cases e22:x.Op=22
 ·obtain ⟨s',d,hP,e⟩:=hn.call e22
  rw [e]
  have hA:top.f<x.A∧x.A<p.Funcs.length:=by
   cases wI<;>simp only at e22<;>first| (exfalso;omega)| exact ⟨by assumption,by assumption⟩
  have hfA:inN x.A p.Funcs.length:=⟨by have:=hT.1.1;omega,hA.2⟩
  have wFA:=E.wf.func x.A hfA.1 hfA.2
  have hsm:=(E.acc x.A hfA).small E.wf hfA E.hal
  have hU:=h.upd (u:=⟨top.f,nextAt x n.regs top.at_⟩) (deep:=n.deep) (out:=stepO n.out) (hat (by omega)) rfl h.regs h.stk rfl rfl h.inp (Nat.le_refl _) rfl h5 (Nat.le_succ _)
  have hin:(List.map (·.f) (A++[⟨top.f,nextAt x n.regs top.at_⟩]++[(⟨x.A,0⟩:R12activation)])).Pairwise (·<·):=by
   have hi:=hU.inc
   rw [List.map_append]
   refine List.pairwise_append.2 ⟨hi,by simp,fun a ha b hb=>?_⟩
   have e:b=x.A:=by simpa using hb
   rw [e]
   have hi2:(List.map (·.f) A++[top.f]).Pairwise (·<·):=by
    have:=h.inc
    rw [h.acts,List.map_append] at this
    exact this
   rw [List.map_append] at ha
   rcases List.mem_append.1 ha with q| q
   ·have:=(List.pairwise_append.1 hi2).2.2 a q top.f (by simp)
    omega
   ·have e:a=top.f:=by simpa using q
    omega
  have hall:∀a∈A++[⟨top.f,nextAt x n.regs top.at_⟩]++[(⟨x.A,0⟩:R12activation)],inN a.f p.Funcs.length∧inN a.at_ (atD p.Funcs a.f).Code.length:=fun a ha=>by
   rcases List.mem_append.1 ha with q| q
   ·exact hU.all a q
   ·have e:a=⟨x.A,0⟩:=by simpa using q
    rw [e]
    exact ⟨hfA,Int.le_refl 0,by have:=wFA.code.1;show (0:Int)<((atD p.Funcs x.A).Code.length:Int);omega⟩
  have hl:=asc_few hin fun f hf=>by
   obtain ⟨a,ha,rfl⟩:=List.mem_map.1 hf
   exact (hall a ha).1
  have hl2:(List.map (·.f) (A++[⟨top.f,nextAt x n.regs top.at_⟩]++[(⟨x.A,0⟩:R12activation)])).length=A.length+2:=by simp
  have hfew:=E.few
  have hsp:n.stack.SP- (atD l x.A).Size=4096- sumZ l (List.map (·.f) (A++[⟨top.f,nextAt x n.regs top.at_⟩]++[(⟨x.A,0⟩:R12activation)])):=by
   rw [List.map_append,List.map_append,sumZ_append,sumZ_append]
   simp [sumZ]
   omega
  refine .inl ⟨_,_,⟨h.tgt,rfl,h.regs,hall,hin,?_,?_,h.inp,h.inl,hU.steps,hU.tr,h.run,hP.stk h.stk ⟨hsm.1,?_⟩,?_,?_,h.first⟩⟩
  ·have:=hU.fst
   show (atD (A++[_]++[_]) 0).f=0
   cases A with
   | nil=>exact this
   | cons a r=>exact this
  ·have q1:=hT.2.1
   have en:nextAt x n.regs top.at_=top.at_+1:=by
    unfold nextAt
    rw [if_neg (by omega),if_neg (by omega)]
   refine hU.link.push ?_ ?_ ?_
   ·show 0≤nextAt x n.regs top.at_- 1
    omega
   ·show (atD (atD p.Funcs top.f).Code (nextAt x n.regs top.at_- 1)).Op=22
    rw [en,show top.at_+1- 1=top.at_ by omega,←hx];exact e22
   ·show (atD (atD p.Funcs top.f).Code (nextAt x n.regs top.at_- 1)).A=x.A
    rw [en,show top.at_+1- 1=top.at_ by omega,←hx]
  ·show (atD l x.A).Size≤n.stack.SP
   omega
  ·show s'.Bytes.length=4096
   rw [hP.byt];exact h.blen
  ·show s'.SP=_
   rw [hP.sp]
   exact hsp
 by_cases e23:x.Op=23
 ·rw [hn.ret e23]
  by_cases eA:A=[]
  ·rw [if_pos eA];exact .inr ⟨rfl,Int.le_refl 0,by show (0:Int)≤3;decide⟩
  ·rw [if_neg eA]
   obtain ⟨B,c,hB⟩:=(List.eq_nil_or_concat A).resolve_left eA
   rw [List.concat_eq_append] at hB
   have hlk:=h.link
   rw [h.acts] at hlk
   have q2:=h.steps
   have q3:=h.tr
   have q4:=h.stk.most
   have hbl:=h.blen
   refine .inl ⟨B,c,⟨h.tgt,hB,h.regs,fun a ha=>h.all a (by rw [h.acts];exact List.mem_append_left _ ha),?_,?_,hlk.pop,h.inp,h.inl,?_,?_,h.run,⟨h.stk.len,h.stk.most,?_,h.stk.by_⟩,h.blen,?_,h.first⟩⟩
   ·have:=h.inc
    rw [h.acts,List.map_append] at this
    exact (List.pairwise_append.1 this).1
   ·have:=h.fst
    rw [h.acts] at this
    show (atD A 0).f=0
    cases A with
    | nil=>exact absurd rfl eA
    | cons a r=>exact this
   ·show 0≤n.out.Steps+1∧n.out.Steps+1≤500
    omega
   ·show (n.out.Trace.length:Int)≤n.out.Steps+1
    omega
   ·show 0≤n.stack.SP+(atD l top.f).Size∧n.stack.SP+(atD l top.f).Size≤(n.stack.Bytes.length:Int)
    have:=h.stk.sp
    omega
   ·show n.stack.SP+(atD l top.f).Size=4096- sumZ l (A.map (·.f))
    omega
 by_cases e24:x.Op=24
 ·rw [hn.trap e24]
  exact .inr ⟨rfl,by show (0:Int)≤1;decide,by show (1:Int)≤3;decide⟩
 by_cases e14:x.Op≤14
 ·rw [hn.plain e14]
  have hpl:=wI.plain e14
  obtain ⟨p1,p2,p3,p4⟩:=plainF_rng x n.regs n.input n.out.Trace hpl h.regs h.inp
  by_cases ez:(plainF x n.regs n.input n.out.Trace).2.2.2=true
  ·refine .inr ?_
   have ez':(plainF x (headT n A top x).regs (headT n A top x).input (headT n A top x).out.Trace).2.2.2=true:=ez
   rw [if_pos ez']
   exact ⟨rfl,by show (0:Int)≤2;decide,by show (2:Int)≤3;decide⟩
  ·have ez':¬(plainF x (headT n A top x).regs (headT n A top x).input (headT n A top x).out.Trace).2.2.2=true:=ez
   rw [if_neg ez']
   exact .inl ⟨_,_,h.upd (hat (by omega)) rfl p1 h.stk rfl rfl p2 p3 rfl h5 p4⟩
 by_cases e15:x.Op=15
 ·obtain ⟨_,q1,q2⟩:=hn.load e15
  by_cases hu:UsedS n.stack (atD (atD l top.f).Off x.B) (atD (atD p.Funcs top.f).Slots x.B).Size
  ·rw [q1 hu];exact updR (by omega) (h.regs.set (hval _ _) _)
  ·exact over3 (q2 hu)
 by_cases e16:x.Op=16
 ·obtain ⟨_,s',hS,e⟩:=hn.store e16
  rw [e];exact updS (by omega) hS (h.regs _)
 by_cases e17:x.Op=17
 ·obtain ⟨_,_,q1,q2⟩:=hn.move e17
  by_cases hu:UsedS n.stack (atD (atD l top.f).Off x.B) (atD (atD p.Funcs top.f).Slots x.A).Size
  ·obtain ⟨s',hS,e⟩:=q1 hu
   rw [e];exact updS (by omega) hS (hval _ _)
  ·exact over3 (q2 hu)
 by_cases e18:x.Op=18
 ·obtain ⟨_,s',hS,e⟩:=hn.arg e18
  rw [e];exact updS (by omega) hS (h.regs _)
 have e19:x.Op=19:=by omega
 obtain ⟨_,q1,q2⟩:=hn.param e19
 by_cases hu:UsedS n.stack ((atD l top.f).Size+16*x.B) 16
 ·rw [q1 hu];exact updR (by omega) (h.regs.set (hval _ _) _)
 ·exact over3 (q2 hu)
end
def tgA (a:R08activation):R12activation:=⟨a.f,a.at_⟩
section
variable {p:AProgram} {al:Int} {l:List ALayout} {t:ATarget} {O:Int→List (List Int)}
def ActR (p:AProgram) (l:List ALayout) (O:Int→List (List Int)) (st:AStack) (b:Int) (a:R08activation):Prop:=
 (∀s,inN s (atD p.Funcs a.f).Slots.length→s∈inSet (atD (atD p.Funcs a.f).Code a.at_) (atD (O a.f) a.at_)→(atD a.slots s).ok=true→MemP st (b+atD (atD l a.f).Off s) (atD (atD p.Funcs a.f).Slots s).Size (atD a.slots s).v)∧
 (∀k:Int,0≤k→16*k+16≤(atD l a.f).Args→(atD a.args k).ok=true→MemP st (b+16*k) 16 (atD a.args k).v)
def MemR (p:AProgram) (l:List ALayout) (O:Int→List (List Int)) (st:AStack):Int→List R08activation→Prop
 | _,[]=>True
 | b,a::r=>ActR p l O st (b- (atD l a.f).Size) a∧MemR p l O st (b- (atD l a.f).Size) r
theorem MemR_append {st:AStack}:∀(A C:List R08activation) (b:Int),MemR p l O st b (A++C)↔MemR p l O st b A∧MemR p l O st (b- sumZ l (A.map (·.f))) C
 | [],C,b=>by simp [MemR,sumZ]
 | a::A,C,b=>by
   have e:b- (atD l a.f).Size- sumZ l (A.map (·.f))=b- sumZ l ((a::A).map (·.f)):=by simp [sumZ];omega
   have ih:=MemR_append (st:=st) A C (b- (atD l a.f).Size)
   rw [e] at ih
   exact ⟨fun ⟨h1,h2⟩=>⟨⟨h1,(ih.1 h2).1⟩,(ih.1 h2).2⟩,fun ⟨⟨h1,h2⟩,h3⟩=>⟨h1,ih.2 ⟨h2,h3⟩⟩⟩
theorem SetP.small (E:SetP p al l t O) {f:Int} (hf:inN f p.Funcs.length):0≤(atD l f).Size∧(atD l f).Size≤1000:=by
 have:=(E.acc f hf).small E.wf hf E.hal
 exact ⟨this.1,this.2.1⟩
theorem ActR.keep (E:SetP p al l t O) {st st':AStack} {b lo:Int} {a:R08activation} (ha:inN a.f p.Funcs.length) (hk:∀at_ m w,lo≤at_→MemP st at_ m w→MemP st' at_ m w) (hb:lo≤b) (h:ActR p l O st b a):ActR p l O st' b a:=
 ⟨fun s h1 h2 h3=>hk _ _ _ (by have:=((E.acc a.f ha).shape.place E.wf ha h1);omega) (h.1 s h1 h2 h3),fun k h1 h2 h3=>hk _ _ _ (by omega) (h.2 k h1 h2 h3)⟩
theorem MemR.keep (E:SetP p al l t O) {st st':AStack} {lo:Int} (hk:∀at_ m w,lo≤at_→MemP st at_ m w→MemP st' at_ m w):∀{A:List R08activation} {b:Int},(∀a∈A,inN a.f p.Funcs.length)→lo≤b- sumZ l (A.map (·.f))→MemR p l O st b A→MemR p l O st' b A
 | [],_,_,_,_=>trivial
 | a::A,b,ha,hb,h=>by
   have e:sumZ l ((a::A).map (·.f))=(atD l a.f).Size+sumZ l (A.map (·.f)):=rfl
   have hs:=sumZ_bound (l:=l) (fs:=A.map (·.f)) fun f hf=>(by
    obtain ⟨c,hc,rfl⟩:=List.mem_map.1 hf
    exact E.small (ha c (List.mem_cons_of_mem _ hc)))
   exact ⟨h.1.keep E (ha a List.mem_cons_self) hk (by omega),MemR.keep E hk (fun c hc=>ha c (List.mem_cons_of_mem _ hc)) (by omega) h.2⟩
theorem ActR.step (E:SetP p al l t O) {f at_ at':Int} {slots' args':List R08cell} {x:AInstr} (hf:inN f p.Funcs.length) (hx:x=atD (atD p.Funcs f).Code at_) (hj:at'∈nextS (atD p.Funcs f) at_) {st':AStack} {b:Int}
 (h1:∀s,inN s (atD p.Funcs f).Slots.length→s∈atD (O f) at_→¬(remB x=true∧s=x.A)→(atD slots' s).ok=true→MemP st' (b+atD (atD l f).Off s) (atD (atD p.Funcs f).Slots s).Size (atD slots' s).v)
 (h2:remB x=true→(atD slots' x.A).ok=true→MemP st' (b+atD (atD l f).Off x.A) (atD (atD p.Funcs f).Slots x.A).Size (atD slots' x.A).v)
 (h3:∀k:Int,0≤k→16*k+16≤(atD l f).Args→(atD args' k).ok=true→MemP st' (b+16*k) 16 (atD args' k).v):ActR p l O st' b ⟨f,at',slots',args'⟩:=by
 have wF:=E.wf.func _ hf.1 hf.2
 have hL:=E.live f hf
 refine ⟨fun s i1 i2 i3=>?_,h3⟩
 have i4:s∈atD (O f) at_:=hL.ge at_ (wF.next hj).1 s ((mem_stepAt wF hL.ann).2 ⟨at',hj,i2⟩)
 by_cases q:remB x=true∧s=x.A
 ·have e:=q.2
  subst e
  exact h2 q.1 i3
 ·exact h1 s i1 i4 q i3
structure RelS (p:AProgram) (l:List ALayout) (t:ATarget) (O:Int→List (List Int)) (m:R08machine) (A:List R08activation) (top:R08activation) (n:R12machine) (B:List R12activation) (tp:R12activation):Prop where
 src:SrcP p m A top
 tgt:TgtS p l t n B tp
 regs:n.regs=m.regs
 inp:n.input=m.input
 out:n.out=m.out
 acts:n.acts=m.acts.map tgA
 mem:MemR p l O n.stack 4096 m.acts
def RelG (p:AProgram) (l:List ALayout) (t:ATarget) (O:Int→List (List Int)) (m:R08machine) (n:R12machine):Prop:=
 (∃A top B tp,RelS p l t O m A top n B tp)∨(OverS m.done m.out.Kind∧n.done=true∧n.out=m.out)∨(m.done=true∧m.out.Kind=3∧TgtG p l t n)
theorem RelG.mk {m:R08machine} {n:R12machine} (hs:SrcG p m) (ht:TgtG p l t n) (d1:m.done=false) (d2:n.done=false) (e1:n.regs=m.regs) (e2:n.input=m.input) (e3:n.out=m.out) (e4:n.acts=m.acts.map tgA) (hm:MemR p l O n.stack 4096 m.acts):RelG p l t O m n:=by
 rcases hs with ⟨A,top,hs⟩| ⟨q,_⟩
 ·rcases ht with ⟨B,tp,ht⟩| ⟨q,_⟩
  ·exact .inl ⟨A,top,B,tp,hs,ht,e1,e2,e3,e4,hm⟩
  ·rw [d2] at q;cases q
 ·rw [d1] at q;cases q
theorem remB_not {x:AInstr} (h:¬x.Op=16) (h':¬x.Op=17):¬remB x=true:=by unfold remB;simp [h,h']
theorem sim (E:SetP p al l t O) {m:R08machine} {A:List R08activation} {top:R08activation} {n:R12machine} {B:List R12activation} {tp:R12activation} (h:RelS p l t O m A top n B tp) (h5:m.out.Steps≤499) {x:AInstr} (hx:x=atD (atD p.Funcs top.f).Code top.at_) {n':R12machine} (hn:TRes l (atD l tp.f) (atD p.Funcs tp.f).Slots (headT n B tp x) B tp x n'):RelG p l t O (srcF p m A top x) n':=by
 obtain ⟨eB,eT⟩:B=A.map tgA∧tp=tgA top:=by
  have e:=h.acts
  rw [h.tgt.acts,h.src.acts,List.map_append] at e
  obtain ⟨e1,e2⟩:=List.append_inj' e rfl
  exact ⟨e1,by simpa using e2⟩
 have hs:=src_next E.wf h.src h5 hx
 have ht:=tgt_next E h.tgt (by rw [h.out];exact h5) (x:=x) (by rw [eT];exact hx) hn
 obtain ⟨nt,nregs,nacts,st,nfirst,ndeep,ninp,ndone,nout⟩:=n
 obtain ⟨mp,regs,macts,inp,mdeep,mdone,out⟩:=m
 obtain ⟨f,at_,slots,args⟩:=top
 have a1:=h.regs
 have a2:=h.inp
 have a3:=h.out
 have a4:=h.src.run
 have a5:=h.tgt.run
 have a6:=h.src.prg
 have a7:=h.src.acts
 dsimp only at a1 a2 a3 a4 a5 a6 a7 h5
 subst a1 a2 a3 a4 a5 a6 a7 eB eT
 obtain ⟨z1,z2,z3,z4,z5,z6,z7⟩:=h.tgt.sizes E
 have emap:(A.map tgA).map (·.f)=A.map (·.f):=by rw [List.map_map];rfl
 rw [emap] at z3 z4 z5
 dsimp only [tgA] at z3 z6 z7
 have hmem:=(MemR_append A [_] 4096).1 h.mem
 obtain ⟨hMA,hMt,_⟩:=hmem
 have ebase:4096- sumZ l (A.map (·.f))- (atD l f).Size=st.SP:=z3.symm
 dsimp only at hMA hMt
 rw [ebase] at hMt
 have hT:=h.src.topP
 have hf:=hT.f
 have hat:=hT.at_
 have hsl:=hT.sl
 have har:=hT.ar
 dsimp only at hf hat hsl har
 have wF:=E.wf.func _ hf.1 hf.2
 have wI:=E.wf.instrAt hf hat
 dsimp only at hx
 rw [←hx] at wI
 have hop:0≤x.Op∧x.Op≤24:=by cases wI<;>dsimp only<;>omega
 have hS:=(E.acc f hf).shape
 have hplace:=fun s (hs:inN s (atD mp.Funcs f).Slots.length)=>hS.place E.wf hf hs
 have hright:=fun s (hs:inN s (atD mp.Funcs f).Slots.length)=>(wF.rightS _ (atD_mem hs)).1
 have hstk:=h.tgt.stk
 have hspos:=hstk.sp
 dsimp only at hstk hspos
 have hAin:∀a∈A,inN a.f mp.Funcs.length:=fun a ha=>(h.src.all a (List.mem_append_left _ ha)).f
 have hj:¬(x.Op=23∨x.Op=24)→nextAt x nregs at_∈nextS (atD mp.Funcs f) at_:=fun e=>nextAt_mem hat hx nregs e
 have hMs:∀s,inN s (atD mp.Funcs f).Slots.length→s∈inSet x (atD (O f) at_)→(atD slots s).ok=true→MemP st (st.SP+atD (atD l f).Off s) (atD (atD mp.Funcs f).Slots s).Size (atD slots s).v:=fun s i1 i2 i3=>hMt.1 s i1 (by rw [hx] at i2;exact i2) i3
 have hMa:∀k:Int,0≤k→16*k+16≤(atD l f).Args→(atD args k).ok=true→MemP st (st.SP+16*k) 16 (atD args k).v:=fun k i1 i2 i3=>hMt.2 k i1 i2 i3
 have hT1:¬(x.Op=23∨x.Op=24)→¬x.Op=16→¬x.Op=17→ActR mp l O st st.SP ⟨f,nextAt x nregs at_,slots,args⟩:=fun e e1 e2=>
  ActR.step E hf hx (hj e) (fun s i1 i2 i3 i4=>hMs s i1 (mem_inSet.2 (.inl ⟨i2,i3⟩)) i4) (fun q=>absurd q (remB_not e1 e2)) hMa
 have hM1:∀{s':AStack} {a:R08activation},MemR mp l O s' 4096 A→a.f=f→ActR mp l O s' st.SP a→MemR mp l O s' 4096 (A++[a]):=fun {s' a} q1 q2 q3=>(MemR_append A [a] 4096).2 ⟨q1,by
  show ActR mp l O s' (4096- sumZ l (A.map (·.f))- (atD l a.f).Size) a∧True
  rw [q2,ebase];exact ⟨q3,trivial⟩⟩
 have hacts:∀(sl ar:List R08cell),A.map tgA++[(⟨f,nextAt x nregs at_⟩:R12activation)]=(A++[(⟨f,nextAt x nregs at_,sl,ar⟩:R08activation)]).map tgA:=fun sl ar=>by simp [tgA]
 have hloA:st.SP+(atD l f).Size=4096- sumZ l (A.map (·.f)):=by omega
 have hkeepA:∀{s':AStack} {off k:Int} {v:AValue},StoreP st s' off k v→0≤off→off+k≤(atD l f).Size→MemR mp l O s' 4096 A:=fun {s' off k v} q q0 q1=>MemR.keep E (lo:=st.SP+(atD l f).Size) (fun a w u h1 h2=>q.other h2 (by omega) (.inr (by omega))) hAin (by omega) hMA
 unfold srcF at hs ⊢
 dsimp only at hs ⊢
 by_cases e20:x.Op=20∨x.Op=21
 ·rw [if_pos e20] at hs ⊢
  rw [hn.jmp e20] at ht ⊢
  exact RelG.mk hs ht rfl rfl rfl rfl rfl (hacts _ _) (hM1 hMA rfl (hT1 (by omega) (by omega) (by omega)))
 rw [if_neg e20] at hs ⊢
 by_cases e22:x.Op=22
 ·rw [if_pos e22] at hs ⊢
  obtain ⟨s',d,hP,e⟩:=hn.call e22
  rw [e] at ht ⊢
  have hA:f<x.A∧x.A<mp.Funcs.length:=by
   cases wI<;>simp only at e22<;>first| (exfalso;omega)| exact ⟨by assumption,by assumption⟩
  have hk:∀a w u,st.SP≤a→MemP st a w u→MemP s' a w u:=fun a w u q1 q2=>PushP.mem hP q2 (by omega) q1
  have hm1:=hM1 hMA rfl (hT1 (by omega) (by omega) (by omega))
  have hm2:MemR mp l O s' 4096 (A++[⟨f,nextAt x nregs at_,slots,args⟩]):=hm1.keep E hk (fun a ha=>by
   rcases List.mem_append.1 ha with q| q
   ·exact hAin a q
   ·have e:a=⟨f,nextAt x nregs at_,slots,args⟩:=by simpa using q
    rw [e];exact hf) (by rw [List.map_append,sumZ_append];simp [sumZ];omega)
  refine RelG.mk hs ht rfl rfl rfl rfl rfl ?_ ((MemR_append _ _ _).2 ⟨hm2,⟨?_,?_⟩,trivial⟩)
  ·show (A.map tgA++[(⟨f,nextAt x nregs at_⟩:R12activation)])++[⟨x.A,0⟩]=_
   simp [tgA]
  ·intro s i1 i2 i3
   have i4:(atD (repD ((atD mp.Funcs x.A).Slots.length:Int):List R08cell) s).ok=true:=i3
   rw [repD_at] at i4
   cases i4
  ·intro k i1 i2 i3
   have i4:(atD (repD 8:List R08cell) k).ok=true:=i3
   rw [repD_at] at i4
   cases i4
 rw [if_neg e22] at hs ⊢
 by_cases e23:x.Op=23
 ·rw [if_pos e23] at hs ⊢
  rw [hn.ret e23] at ht ⊢
  by_cases eA:A=[]
  ·rw [if_pos eA] at hs ⊢
   rw [if_pos (by rw [eA];rfl)] at ht ⊢
   exact .inr (.inl ⟨⟨rfl,Int.le_refl 0,by show (0:Int)≤3;decide⟩,rfl,rfl⟩)
  ·rw [if_neg eA] at hs ⊢
   rw [if_neg (by simpa using eA)] at ht ⊢
   refine RelG.mk hs ht rfl rfl rfl rfl rfl rfl ?_
   exact hMA.keep E (lo:=4096- sumZ l (A.map (·.f))) (fun a w u _ q=>q.pop _) hAin (Int.le_refl _)
 rw [if_neg e23] at hs ⊢
 by_cases e24:x.Op=24
 ·rw [if_pos e24] at hs ⊢
  rw [hn.trap e24] at ht ⊢
  exact .inr (.inl ⟨⟨rfl,by show (0:Int)≤1;decide,by show (1:Int)≤3;decide⟩,rfl,rfl⟩)
 rw [if_neg e24] at hs ⊢
 by_cases e14:x.Op≤14
 ·rw [if_neg (by omega:¬15≤x.Op)] at hs ⊢
  rw [hn.plain e14] at ht ⊢
  by_cases ez:(plainF x nregs ninp nout.Trace).2.2.2=true
  ·rw [if_pos ez] at hs ⊢
   have ez':(plainF x (headT ⟨nt,nregs,nacts,st,nfirst,ndeep,ninp,false,nout⟩ (A.map tgA) (tgA ⟨f,at_,slots,args⟩) x).regs (headT ⟨nt,nregs,nacts,st,nfirst,ndeep,ninp,false,nout⟩ (A.map tgA) (tgA ⟨f,at_,slots,args⟩) x).input (headT ⟨nt,nregs,nacts,st,nfirst,ndeep,ninp,false,nout⟩ (A.map tgA) (tgA ⟨f,at_,slots,args⟩) x).out.Trace).2.2.2=true:=ez
   rw [if_pos ez'] at ht ⊢
   exact .inr (.inl ⟨⟨rfl,by show (0:Int)≤2;decide,by show (2:Int)≤3;decide⟩,rfl,rfl⟩)
  ·rw [if_neg ez] at hs ⊢
   have ez':¬(plainF x (headT ⟨nt,nregs,nacts,st,nfirst,ndeep,ninp,false,nout⟩ (A.map tgA) (tgA ⟨f,at_,slots,args⟩) x).regs (headT ⟨nt,nregs,nacts,st,nfirst,ndeep,ninp,false,nout⟩ (A.map tgA) (tgA ⟨f,at_,slots,args⟩) x).input (headT ⟨nt,nregs,nacts,st,nfirst,ndeep,ninp,false,nout⟩ (A.map tgA) (tgA ⟨f,at_,slots,args⟩) x).out.Trace).2.2.2=true:=ez
   rw [if_neg ez'] at ht ⊢
   exact RelG.mk hs ht rfl rfl rfl rfl rfl (hacts _ _) (hM1 hMA rfl (hT1 (by omega) (by omega) (by omega)))
 rw [if_pos (by omega:15≤x.Op)] at hs ⊢
 unfold memF at hs ⊢
 dsimp only at hs ⊢
 by_cases e16:x.Op=16
 ·rw [if_pos e16] at hs ⊢
  obtain ⟨hR,s',hP0,e⟩:=hn.store e16
  rw [e] at ht ⊢
  have hP:StoreP st s' (atD (atD l f).Off x.A) (atD (atD mp.Funcs f).Slots x.A).Size (nregs.at_ x.B):=hP0
  have hin:inN x.A (atD mp.Funcs f).Slots.length:=by
   cases wI<;>simp only at e16<;>first| (exfalso;omega)| assumption
  have hp:=hplace x.A hin
  have hrem:remB x=true:=by unfold remB;simp [e16]
  have hset:∀s,0≤s→atD (setD slots x.A ⟨truncV (nregs.at_ x.B) (atD (atD mp.Funcs f).Slots x.A).Size,true⟩) s=if s=x.A then ⟨truncV (nregs.at_ x.B) (atD (atD mp.Funcs f).Slots x.A).Size,true⟩ else atD slots s:=fun s hs0=>atD_setD ⟨hin.1,by rw [hsl];exact hin.2⟩ hs0
  refine RelG.mk hs ht rfl rfl rfl rfl rfl (hacts _ _) (hM1 (hkeepA hP (by omega) (by omega)) rfl ?_)
  refine ActR.step E hf hx (hj (by omega)) (fun s i1 i2 i3 i4=>?_) (fun _ _=>?_) (fun k i1 i2 i3=>?_)
  ·have hne:¬s=x.A:=fun q=>i3 ⟨hrem,q⟩
   rw [hset s i1.1,if_neg hne] at i4 ⊢
   have hm:=hMs s i1 (mem_inSet.2 (.inl ⟨i2,i3⟩)) i4
   have hc:=E.clash f hf at_ hat (by rw [←hx];exact hrem) (by rw [←hx];omega) s i2 (by rw [←hx];exact hne)
   rw [←hx] at hc
   have hps:=hplace s i1
   exact hP.other hm (by omega) (by omega)
  ·rw [hset x.A hin.1,if_pos rfl]
   exact StoreP.mem hstk hR (h.src.regs _) hP
  ·have hm:=hMa k i1 i2 i3
   exact hP.other hm (by omega) (.inl (by omega))
 rw [if_neg e16] at hs ⊢
 by_cases e18:x.Op=18
 ·rw [if_pos e18] at hs ⊢
  obtain ⟨hR,s',hP0,e⟩:=hn.arg e18
  rw [e] at ht ⊢
  have hP:StoreP st s' (16*x.A) 16 (nregs.at_ x.B):=hP0
  have hin:inN x.A 8:=by
   cases wI<;>simp only at e18<;>first| (exfalso;omega)| assumption
  have hfit:16*x.A+16≤(atD l f).Args:=by
   have hm:=atD_mem (l:=(atD mp.Funcs f).Code) hat
   have hA:=(argsN_R E.wf hf (l:=(atD mp.Funcs f).Code) fun x hx=>hx).2.2.1 _ hm
   rw [←hx] at hA
   have hn:needA mp x=x.A+1:=by unfold needA;rw [if_pos e18]
   have:=hS.args
   omega
  have hsz:=hS.sz.1
  have hin0:=hin.1
  have hset:∀s,0≤s→atD (setD args x.A ⟨nregs.at_ x.B,true⟩) s=if s=x.A then ⟨nregs.at_ x.B,true⟩ else atD args s:=fun s hs0=>atD_setD ⟨hin.1,by rw [har];exact hin.2⟩ hs0
  refine RelG.mk hs ht rfl rfl rfl rfl rfl (hacts _ _) (hM1 (hkeepA hP (by omega) (by omega)) rfl ?_)
  refine ActR.step E hf hx (hj (by omega)) (fun s i1 i2 i3 i4=>?_) (fun q _=>absurd q (remB_not e16 (by omega))) (fun k i1 i2 i3=>?_)
  ·have hm:=hMs s i1 (mem_inSet.2 (.inl ⟨i2,i3⟩)) i4
   have hps:=hplace s i1
   exact hP.other hm (by omega) (.inr (by omega))
  ·by_cases q:k=x.A
   ·subst q
    rw [hset _ i1,if_pos rfl]
    have:=StoreP.mem hstk hR (h.src.regs x.B) hP
    rw [trunc_16 _ (h.src.regs x.B)] at this
    exact this
   ·rw [hset _ i1,if_neg q] at i3 ⊢
    have hm:=hMa k i1 i2 i3
    have:=hin.1
    exact hP.other hm (by omega) (by omega)
 rw [if_neg e18] at hs ⊢
 by_cases e19:x.Op=19
 ·have hk:inN x.B (atD mp.Funcs f).Params:=by
   cases wI<;>simp only at e19<;>first| (exfalso;omega)| assumption
  obtain ⟨A',c,eA,c1,c2⟩:=h.tgt.caller E hk
  obtain ⟨A0,c0,hA0⟩:∃A0 c0,A=A0++[c0]:=by
   rcases List.eq_nil_or_concat A with q| ⟨L,b,q⟩
   ·rw [q] at eA;simp at eA
   ·exact ⟨L,b,by rw [q,List.concat_eq_append]⟩
  have ec:c=tgA c0:=by
   rw [hA0,List.map_append] at eA
   have:=(List.append_inj' eA rfl).2
   simp at this
   exact this.symm
  rw [ec] at c1 c2
  have eat:atD A ((A.length:Int)- 1)=c0:=by
   rw [hA0]
   exact atD_last (by simp)
  simp only [e19,if_true,eat] at hs ⊢
  obtain ⟨hR,q1,q2⟩:=hn.param e19
  by_cases ok:(atD c0.args x.B).ok=true
  ·rw [if_neg (by simpa using ok),if_neg (by decide)] at hs ⊢
   have hm0:=hMA
   rw [hA0] at hm0
   obtain ⟨_,hc0,_⟩:=(MemR_append A0 [c0] 4096).1 hm0
   have eb:4096- sumZ l (A0.map (·.f))- (atD l c0.f).Size=st.SP+(atD l f).Size:=by
    have:sumZ l (A.map (·.f))=sumZ l (A0.map (·.f))+(atD l c0.f).Size:=by
     rw [hA0,List.map_append,sumZ_append];simp [sumZ]
    omega
   rw [eb] at hc0
   have hm:=hc0.2 x.B hk.1 c1 ok
   have hm':MemP st (st.SP+((atD l f).Size+16*x.B)) 16 (atD c0.args x.B).v:=by
    rw [←Int.add_assoc];exact hm
   obtain ⟨u1,u2⟩:=hm'.load hstk hR
   rw [q1 u1] at ht ⊢
   refine RelG.mk hs ht rfl rfl ?_ rfl rfl (hacts _ _) (hM1 hMA rfl (hT1 (by omega) (by omega) (by omega)))
   show nregs.set x.A (fromB (cutS st ((atD l f).Size+16*x.B) 16))=nregs.set x.A (atD c0.args x.B).v
   exact congrArg (nregs.set x.A) u2
  ·rw [if_pos ok] at hs ⊢
   exact .inr (.inr ⟨rfl,rfl,ht⟩)
 simp only [if_neg e19] at hs ⊢
 have hB:inN x.B (atD mp.Funcs f).Slots.length:=by
  have hbx:x.Op=15∨x.Op=17:=by omega
  clear hs ht hn hx e14 e16 e18 e19 e20 e22 e23 e24 hj hT1 hM1 hacts hMs
  cases wI<;>simp only at hbx<;>first| (exfalso;omega)| assumption
 have huse:x.B∈inSet x (atD (O f) at_):=mem_inSet.2 (.inr ⟨by unfold useS;rw [if_pos (by omega)];simp,hB.1,by have:=hB.2;have:=wF.slots;omega⟩)
 by_cases ok:(atD slots x.B).ok=true
 ·rw [if_neg (by simpa using ok)] at hs ⊢
  have hm:=hMs x.B hB huse ok
  by_cases e17:x.Op=17
  ·rw [if_pos e17] at hs ⊢
   obtain ⟨hR,hR',q1,q2⟩:=hn.move e17
   have hin:inN x.A (atD mp.Funcs f).Slots.length:=by
    cases wI<;>simp only at e17<;>first| (exfalso;omega)| assumption
   have he:(atD (atD mp.Funcs f).Slots x.A).Size=(atD (atD mp.Funcs f).Slots x.B).Size:=by
    cases wI<;>simp only at e17<;>first| (exfalso;omega)| assumption
   have hm2:MemP st (st.SP+atD (atD l f).Off x.B) (atD (atD mp.Funcs f).Slots x.A).Size (atD slots x.B).v:=by rw [he];exact hm
   obtain ⟨u1,u2⟩:=hm2.load hstk hR'
   obtain ⟨s',hP,e⟩:=q1 u1
   have hP':StoreP st s' (atD (atD l f).Off x.A) (atD (atD mp.Funcs f).Slots x.A).Size (atD slots x.B).v:=by
    have u3:fromB (cutS st (atD (atD l f).Off x.B) (atD (atD mp.Funcs f).Slots x.A).Size)=(atD slots x.B).v:=u2
    rw [←u3];exact hP
   rw [e] at ht ⊢
   have hp:=hplace x.A hin
   have hrem:remB x=true:=by unfold remB;simp [e17]
   have hset:∀s,0≤s→atD (setD slots x.A ⟨(atD slots x.B).v,true⟩) s=if s=x.A then ⟨(atD slots x.B).v,true⟩ else atD slots s:=fun s hs0=>atD_setD ⟨hin.1,by rw [hsl];exact hin.2⟩ hs0
   refine RelG.mk hs ht rfl rfl rfl rfl rfl (hacts _ _) (hM1 (hkeepA hP' (by omega) (by omega)) rfl ?_)
   refine ActR.step E hf hx (hj (by omega)) (fun s i1 i2 i3 i4=>?_) (fun _ _=>?_) (fun k i1 i2 i3=>?_)
   ·have hne:¬s=x.A:=fun q=>i3 ⟨hrem,q⟩
    rw [hset s i1.1,if_neg hne] at i4 ⊢
    have hms:=hMs s i1 (mem_inSet.2 (.inl ⟨i2,i3⟩)) i4
    have hps:=hplace s i1
    by_cases eo:atD (atD l f).Off x.A=atD (atD l f).Off x.B
    ·exact hP'.same (by rw [eo];exact hm2) hms (by omega)
    ·have hc:=E.clash f hf at_ hat (by rw [←hx];exact hrem) (by rw [←hx];exact fun q=>eo q.2) s i2 (by rw [←hx];exact hne)
     rw [←hx] at hc
     exact hP'.other hms (by omega) (by omega)
   ·rw [hset x.A hin.1,if_pos rfl]
    have this:MemP s' (st.SP+atD (atD l f).Off x.A) (atD (atD mp.Funcs f).Slots x.A).Size (truncV (atD slots x.B).v (atD (atD mp.Funcs f).Slots x.A).Size):=StoreP.mem hstk hR hm2.val hP'
    rw [hm2.cut] at this
    exact this
   ·have hmk:=hMa k i1 i2 i3
    exact hP'.other hmk (by omega) (.inl (by omega))
  ·rw [if_neg e17] at hs ⊢
   have e15:x.Op=15:=by omega
   obtain ⟨hR,q1,q2⟩:=hn.load e15
   obtain ⟨u1,u2⟩:=hm.load hstk hR
   rw [q1 u1] at ht ⊢
   refine RelG.mk hs ht rfl rfl ?_ rfl rfl (hacts _ _) (hM1 hMA rfl (hT1 (by omega) (by omega) (by omega)))
   show nregs.set x.A (fromB (cutS st (atD (atD l f).Off x.B) (atD (atD mp.Funcs f).Slots x.B).Size))=nregs.set x.A (atD slots x.B).v
   exact congrArg (nregs.set x.A) u2
 ·rw [if_pos ok] at hs ⊢
  exact .inr (.inr ⟨rfl,rfl,ht⟩)
end
theorem srcF_steps (p:AProgram) (m:R08machine) (A:List R08activation) (top:R08activation) (x:AInstr):(srcF p m A top x).out.Steps=m.out.Steps+1:=by
 unfold srcF
 dsimp only
 split
 ·rfl
 split
 ·rfl
 split
 ·split<;>rfl
 split
 ·rfl
 split
 ·unfold memF
  dsimp only
  (repeat' split)<;>rfl
 ·split<;>rfl
section
variable {p:AProgram} {al:Int} {l:List ALayout} {t:ATarget} {O:Int→List (List Int)}
theorem TRes.steps {y:ALayout} {sl:List ASlot} {n1:R12machine} {A:List R12activation} {top:R12activation} {x:AInstr} {n':R12machine} (h:TRes l y sl n1 A top x n') (hop:0≤x.Op∧x.Op≤24):n'.out.Steps=n1.out.Steps:=by
 by_cases e20:x.Op=20∨x.Op=21
 ·rw [h.jmp e20]
 by_cases e22:x.Op=22
 ·obtain ⟨s',d,_,e⟩:=h.call e22
  rw [e]
 by_cases e23:x.Op=23
 ·rw [h.ret e23];split<;>rfl
 by_cases e24:x.Op=24
 ·rw [h.trap e24]
 by_cases e14:x.Op≤14
 ·rw [h.plain e14];split<;>rfl
 by_cases e15:x.Op=15
 ·obtain ⟨_,q1,q2⟩:=h.load e15
  by_cases hu:UsedS n1.stack (atD y.Off x.B) (atD sl x.B).Size
  ·rw [q1 hu];rfl
  ·rw [q2 hu];rfl
 by_cases e16:x.Op=16
 ·obtain ⟨_,s',_,e⟩:=h.store e16
  rw [e];rfl
 by_cases e17:x.Op=17
 ·obtain ⟨_,_,q1,q2⟩:=h.move e17
  by_cases hu:UsedS n1.stack (atD y.Off x.B) (atD sl x.A).Size
  ·obtain ⟨s',_,e⟩:=q1 hu
   rw [e];rfl
  ·rw [q2 hu];rfl
 by_cases e18:x.Op=18
 ·obtain ⟨_,s',_,e⟩:=h.arg e18
  rw [e];rfl
 have e19:x.Op=19:=by omega
 obtain ⟨_,q1,q2⟩:=h.param e19
 by_cases hu:UsedS n1.stack (y.Size+16*x.B) 16
 ·rw [q1 hu];rfl
 ·rw [q2 hu];rfl
noncomputable def srcStep (p:AProgram) (m:R08machine):R08machine:=if m.done=true then m else srcF p m m.acts.dropLast (m.acts.getLastD default) (atD (atD p.Funcs (m.acts.getLastD default).f).Code (m.acts.getLastD default).at_)
noncomputable def iterS (p:AProgram) (m:R08machine):Nat→R08machine
 | 0=>m
 | k+1=>srcStep p (iterS p m k)
theorem srcStep_run {m:R08machine} {A:List R08activation} {top:R08activation} (h:SrcP p m A top):srcStep p m=srcF p m A top (atD (atD p.Funcs top.f).Code top.at_):=by
 unfold srcStep
 have e1:m.acts.dropLast=A:=by rw [h.acts];simp
 have e2:m.acts.getLastD default=top:=by rw [h.acts,List.getLastD_eq_getLast?,List.getLast?_append];rfl
 rw [if_neg (by rw [h.run];exact Bool.false_ne_true),e1,e2]
theorem iterS_done {m:R08machine} {j:Nat} (h:(iterS p m j).done=true):∀d,iterS p m (j+d)=iterS p m j
 | 0=>rfl
 | d+1=>by
   show srcStep p (iterS p m (j+d))=_
   rw [iterS_done h d]
   unfold srcStep
   rw [if_pos h]
theorem iterS_done' {m:R08machine} {j k:Nat} (h:(iterS p m j).done=true) (hk:j≤k):iterS p m k=iterS p m j:=by
 have:=iterS_done h (k- j)
 rwa [show j+(k- j)=k by omega] at this
noncomputable def finS (p:AProgram) (m:R08machine) (n:Nat):AOutcome:=if (iterS p m n).done=true then (iterS p m n).out else endO (iterS p m n).out 4
def regs0:Arr8AValue:=⟨⟨0,0⟩,⟨0,0⟩,⟨0,0⟩,⟨0,0⟩,⟨0,0⟩,⟨0,0⟩,⟨0,0⟩,⟨0,0⟩⟩
def out0:AOutcome:=⟨0,0,⟨0,0⟩,[],0⟩
noncomputable def src0 (p:AProgram) (inp:List Int):R08machine:=⟨p,regs0,[⟨0,0,repD ((atD p.Funcs 0).Slots.length:Int),repD 8⟩],inp,max 0 1,false,out0⟩
theorem regs0_rng:regR regs0:=fun i=>by
 have:regs0.at_ i=⟨0,0⟩:=by
  unfold Arr8AValue.at_ regs0
  split<;>rfl
 rw [this]
 exact ⟨by unfold u64R;simp,by unfold u64R;simp⟩
theorem src0_P (hp:WfP p) {inp:List Int} (hi:∀z∈inp,wordR z) (hl:inp.length≤1000):SrcP p (src0 p inp) [] ⟨0,0,repD ((atD p.Funcs 0).Slots.length:Int),repD 8⟩:=by
 have hp1:=hp.len.1
 have h0:inN 0 p.Funcs.length:=⟨Int.le_refl 0,by omega⟩
 have wF:=hp.func 0 h0.1 h0.2
 have hc:=wF.code.1
 refine ⟨rfl,rfl,regs0_rng,fun a ha=>?_,by simp [src0],rfl,hi,hl,⟨Int.le_refl 0,by show (0:Int)≤500;decide⟩,by show (0:Int)≤0;decide,rfl⟩
 have e:a=⟨0,0,repD ((atD p.Funcs 0).Slots.length:Int),repD 8⟩:=by simpa [src0] using ha
 rw [e]
 exact ⟨h0,⟨Int.le_refl 0,by show (0:Int)<((atD p.Funcs 0).Code.length:Int);omega⟩,by dsimp only;rw [repD_len];simp,by dsimp only;rw [repD_len];rfl,repD_val,repD_val⟩
theorem run08_sp (hp:WfP p) {inp:List Int} (hi:∀z∈inp,wordR z) (hl:inp.length≤1000) {fuel:Int} (hf:0≤fuel∧fuel≤255):WP (r08_Run p inp fuel) (·=(finS p (src0 p inp) fuel.toNat,0)):=by
 have hp1:=hp.len.1
 have h0:inN 0 p.Funcs.length:=⟨Int.le_refl 0,by omega⟩
 have wF:=hp.func 0 h0.1 h0.2
 have hs6:=wF.slots
 unfold r08_Run
 refine WP.call (R:=fun x=>x.1=finS p (src0 p inp) fuel.toNat∧x.2.2=0) ?_ fun x ⟨x1,x2⟩=>WP.ret (by rw [x1,x2])
 unfold r08_run
 refine WP.call (check5_sp hp) ?_
 rintro _ rfl
 refine WP.bif (fun w=>by simp at w) fun _=>?_
 refine WP.bif (fun w=>by simp at w;omega) fun _=>?_
 refine WP.bif (fun w=>by simp at w;omega) fun _=>?_
 refine WP.call (enter08_sp _ 0 h0 (by dsimp only;omega) (by simp)) ?_
 rintro _ rfl
 refine WP.loop (fun m=>∃k:Nat,m=iterS p (src0 p inp) k∧m.out.Steps=k∧(k:Int)≤fuel∧SrcG p m) (fun m=>(fuel- m.out.Steps).toNat) ⟨0,rfl,rfl,hf.1,.inl ⟨_,_,src0_P hp hi hl⟩⟩ ?_
 rintro again m ⟨k,hm,hk,hkf,hG⟩ ih
 refine WP.bif (fun w=>?_) (fun w=>?_)
 ·have hd:m.done=false:=by simpa using w
  refine WP.bif (fun w2=>?_) (fun w2=>?_)
  ·have h2:fuel≤m.out.Steps:=by simpa using w2
   refine WP.call (end08_sp m 4) ?_
   rintro _ rfl
   refine WP.ret ⟨?_,rfl⟩
   have e:fuel.toNat=k:=by omega
   show endO m.out 4=_
   unfold finS
   rw [e,←hm,if_neg (by rw [hd];exact Bool.false_ne_true)]
  ·have h2:¬fuel≤m.out.Steps:=by simpa using w2
   rcases hG with ⟨A,top,hP⟩| ⟨q,_⟩
   ·refine WP.call (src_step hp hP) ?_
    rintro _ rfl
    have e1:=srcF_steps p m A top (atD (atD p.Funcs top.f).Code top.at_)
    refine ih _ ⟨k+1,?_,by rw [e1];omega,by omega,src_next hp hP (by omega) rfl⟩ (by rw [e1];omega)
    show _=srcStep p (iterS p (src0 p inp) k)
    rw [←hm,srcStep_run hP]
   ·rw [hd] at q;cases q
 ·have hd:m.done=true:=by simpa using w
  refine WP.ret ⟨?_,rfl⟩
  have e:iterS p (src0 p inp) fuel.toNat=m:=by
   rw [hm]
   exact iterS_done' (by rw [←hm];exact hd) (by omega)
  show m.out=_
  unfold finS
  rw [e,if_pos hd]
theorem al_div (hp:WfP p) (hal:al=alignP p):powB al=true∧1≤al∧(4096:Int) % al=0:=by
 obtain ⟨h1,h2,h3⟩:=alP_pow hp (.inl hal)
 refine ⟨h1,h3,?_⟩
 have hm:al∈powL 25 1:=by unfold powB at h1;simpa using h1
 have key:∀x∈powL 25 1,x≤256→(4096:Int) % x=0:=by decide
 exact key al hm h2
theorem new09_sp (hp:WfP p) (hal:al=alignP p):WP (r09_New 4096 al) (·=(⟨repD 4096,repD 4096,4096⟩,0)):=by
 obtain ⟨h1,h2,h3⟩:=al_div hp hal
 unfold r09_New
 refine WP.bif (fun w=>by simp at w) fun _=>WP.bif (fun w=>by simp at w) fun _=>?_
 refine WP.call (power_sp _) ?_
 rintro _ rfl
 refine WP.bif (fun w=>by rw [h1] at w;cases w) fun _=>?_
 refine WP.chk (by omega) fun _=>WP.chk (by omega) fun _=>WP.chk (by omega) fun _=>?_
 rw [h3]
 exact WP.chk ⟨by omega,by omega⟩ fun _=>WP.ret rfl
def EndP (x y:AOutcome):Prop:=(0≤y.Kind∧y.Kind≤4)∧(x.Kind=3∨x=y)
theorem run12_sp (E:SetP p al l t O) {inp:List Int} (hi:∀z∈inp,wordR z) (hl:inp.length≤1000) {fuel:Int} (hf:0≤fuel∧fuel≤255):WP (r12_Run t inp fuel 4096) fun r=>r.2=0∧EndP (finS p (src0 p inp) fuel.toNat) r.1:=by
 have hp:=E.wf
 have hp1:=hp.len.1
 have h0:inN 0 p.Funcs.length:=⟨Int.le_refl 0,by omega⟩
 have wF:=hp.func 0 h0.1 h0.2
 have hc:=wF.code.1
 have hS0:=src0_P hp hi hl
 unfold r12_Run
 refine WP.call (R:=fun x=>x.2.2=0∧EndP (finS p (src0 p inp) fuel.toNat) x.1) ?_ fun x ⟨x1,x2⟩=>WP.ret ⟨x1,x2⟩
 unfold r12_run
 refine WP.call (check10_sp (low_tgt hp E.hal (fun i hi=>(E.acc i hi).shape) E.low)) ?_
 rintro _ rfl
 refine WP.bif (fun w=>by simp at w) fun _=>?_
 refine WP.bif (fun w=>by simp at w;omega) fun _=>?_
 refine WP.bif (fun w=>by simp at w;omega) fun _=>?_
 refine WP.bif (fun w=>by simp at w) fun _=>?_
 refine WP.bif (fun w=>by simp at w) fun _=>?_
 rw [E.low.al]
 refine WP.call (new09_sp hp E.hal) ?_
 rintro _ rfl
 refine WP.join (fun m1:R12machine=>(fuel=0∧m1.done=false∧m1.out=out0)∨(m1.out=out0∧RelG p l t O (src0 p inp) m1)) (fun m1 hm1=>?_) fun k hk=>?_
 ·rcases hm1 with ⟨e0,e1,e2⟩| ⟨e2,hR⟩
  ·refine WP.loop (fun n=>n=m1) (fun _=>0) rfl ?_
   intro again n hn ih
   rw [hn]
   refine WP.bif (fun _=>?_) fun w=>by simp [e1] at w
   refine WP.bif (fun _=>?_) fun w=>by simp [e2,out0] at w;omega
   refine WP.call (end12_sp _ 4) ?_
   rintro _ rfl
   refine WP.ret ⟨rfl,⟨by show (0:Int)≤4;decide,by show (4:Int)≤4;decide⟩,.inr ?_⟩
   show finS p (src0 p inp) fuel.toNat=endO m1.out 4
   rw [e0,e2]
   rfl
  ·refine WP.loop (fun n=>∃k:Nat,n.out.Steps=k∧(k:Int)≤fuel∧RelG p l t O (iterS p (src0 p inp) k) n) (fun n=>(fuel- n.out.Steps).toNat) ⟨0,by rw [e2];rfl,hf.1,hR⟩ ?_
   rintro again n ⟨k,hk,hkf,hG⟩ ih
   refine WP.bif (fun w=>?_) (fun w=>?_)
   ·have hd:n.done=false:=by simpa using w
    refine WP.bif (fun w2=>?_) (fun w2=>?_)
    ·have h2:fuel≤n.out.Steps:=by simpa using w2
     refine WP.call (end12_sp n 4) ?_
     rintro _ rfl
     refine WP.ret ⟨rfl,⟨by show (0:Int)≤4;decide,by show (4:Int)≤4;decide⟩,?_⟩
     have e:fuel.toNat=k:=by omega
     show (finS p (src0 p inp) fuel.toNat).Kind=3∨finS p (src0 p inp) fuel.toNat=endO n.out 4
     rw [e]
     unfold finS
     rcases hG with ⟨A,top,B,tp,hR⟩| ⟨_,q,_⟩| ⟨q1,q2,_⟩
     ·rw [if_neg (by rw [hR.src.run];exact Bool.false_ne_true),hR.out];exact .inr rfl
     ·rw [hd] at q;cases q
     ·rw [if_pos q1];exact .inl q2
    ·have h2:¬fuel≤n.out.Steps:=by simpa using w2
     rcases hG with ⟨A,top,B,tp,hR⟩| ⟨_,q,_⟩| ⟨q1,q2,q3⟩
     ·refine WP.call (t_step E hR.tgt rfl) fun n' hn=>?_
      have hT:=hR.tgt.all tp (by rw [hR.tgt.acts];simp)
      have wI:=E.wf.instrAt hT.1 hT.2
      have hop:0≤(atD (atD p.Funcs tp.f).Code tp.at_).Op∧(atD (atD p.Funcs tp.f).Code tp.at_).Op≤24:=by
       generalize atD (atD p.Funcs tp.f).Code tp.at_=x at wI
       cases wI<;>dsimp only<;>omega
      have e1:n'.out.Steps=n.out.Steps+1:=hn.steps hop
      have eT:tp=tgA top:=by
       have e:=hR.acts
       rw [hR.tgt.acts,hR.src.acts,List.map_append] at e
       have:=(List.append_inj' e rfl).2
       simpa using this
      have ex:atD (atD p.Funcs tp.f).Code tp.at_=atD (atD p.Funcs top.f).Code top.at_:=by rw [eT];rfl
      have eo:=hR.out
      refine ih _ ⟨k+1,by rw [e1];omega,by omega,?_⟩ (by rw [e1];omega)
      show RelG p l t O (srcStep p (iterS p (src0 p inp) k)) n'
      rw [srcStep_run hR.src]
      exact sim E hR (by rw [←eo];omega) rfl (by rw [←ex];exact hn)
     ·rw [hd] at q;cases q
     ·rcases q3 with ⟨B,tp,hT0⟩| ⟨q,_⟩
      ·refine WP.call (t_step E hT0 rfl) fun n' hn=>?_
       have hT:=hT0.all tp (by rw [hT0.acts];simp)
       have wI:=E.wf.instrAt hT.1 hT.2
       have hop:0≤(atD (atD p.Funcs tp.f).Code tp.at_).Op∧(atD (atD p.Funcs tp.f).Code tp.at_).Op≤24:=by
        generalize atD (atD p.Funcs tp.f).Code tp.at_=x at wI
        cases wI<;>dsimp only<;>omega
       have e1:n'.out.Steps=n.out.Steps+1:=hn.steps hop
       refine ih _ ⟨k+1,by rw [e1];omega,by omega,.inr (.inr ?_)⟩ (by rw [e1];omega)
       have e:iterS p (src0 p inp) (k+1)=iterS p (src0 p inp) k:=iterS_done' q1 (by omega)
       rw [e]
       exact ⟨q1,q2,tgt_next E hT0 (by omega) rfl hn⟩
      ·rw [hd] at q;cases q
   ·have hd:n.done=true:=by simpa using w
    refine WP.ret ⟨rfl,?_⟩
    show EndP (finS p (src0 p inp) fuel.toNat) n.out
    rcases hG with ⟨A,top,B,tp,hR⟩| ⟨q1,_,q2⟩| ⟨q1,q2,q3⟩
    ·have:=hR.tgt.run
     rw [hd] at this;cases this
    ·have e:iterS p (src0 p inp) fuel.toNat=iterS p (src0 p inp) k:=iterS_done' q1.1 (by omega)
     unfold EndP finS
     rw [e,if_pos q1.1,q2]
     exact ⟨⟨q1.2.1,by have:=q1.2.2;omega⟩,.inr rfl⟩
    ·have e:iterS p (src0 p inp) fuel.toNat=iterS p (src0 p inp) k:=iterS_done' q1 (by omega)
     unfold EndP finS
     rw [e,if_pos q1]
     rcases q3 with ⟨B,tp,hT0⟩| q
     ·have:=hT0.run
      rw [hd] at this;cases this
     ·exact ⟨⟨q.2.1,by have:=q.2.2;omega⟩,.inl q2⟩
 ·refine WP.bif (fun _=>?_) fun w=>?_
  ·have hsm:=E.small h0
   have eF:(atD t.Frames 0).Size=(atD l 0).Size:=by rw [E.low.fr 0 h0];rfl
   have hst:StkP ⟨repD 4096,repD 4096,4096⟩:=⟨by rw [length_repD,length_repD],by rw [length_repD];decide,⟨by show (0:Int)≤4096;decide,by rw [length_repD];decide⟩,fun z hz=>by
    have e:z=0:=List.eq_of_mem_replicate hz
    rw [e];decide⟩
   refine WP.call (enter12_sp _ 0 ⟨Int.le_refl 0,by rw [E.low.len];omega⟩ hst ⟨by dsimp only;omega,by dsimp only;omega⟩ (by dsimp only;omega) (by simp)) fun x ⟨s',d,hP,e⟩=>?_
   refine hk _ (.inr ?_)
   rw [e]
   have hb:s'.Bytes.length=4096:=by rw [hP.byt,length_repD];rfl
   have hz:sumZ l [0]=(atD l 0).Size:=by simp [sumZ]
   refine ⟨rfl,.inl ⟨_,_,[],⟨0,0⟩,hS0,⟨rfl,rfl,regs0_rng,fun a ha=>?_,by simp,rfl,fun B a b C e=>?_,hi,hl,⟨Int.le_refl 0,by show (0:Int)≤500;decide⟩,by show (0:Int)≤0;decide,rfl,hP.stk hst ⟨by dsimp only;omega,by dsimp only;omega⟩,hb,?_,rfl⟩,rfl,rfl,rfl,rfl,⟨⟨?_,?_⟩,trivial⟩⟩⟩
   ·have e:a=⟨0,0⟩:=by simpa using ha
    rw [e]
    exact ⟨h0,Int.le_refl 0,by show (0:Int)<((atD p.Funcs 0).Code.length:Int);omega⟩
   ·have:=congrArg List.length e
    simp at this
    omega
   ·show s'.SP=4096- sumZ l [0]
    rw [hP.sp,hz]
    show (4096:Int)- (atD t.Frames 0).Size=_
    rw [eF]
   ·intro s i1 i2 i3
    have i4:(atD (repD ((atD p.Funcs 0).Slots.length:Int):List R08cell) s).ok=true:=i3
    rw [repD_at] at i4
    cases i4
   ·intro s i1 i2 i3
    have i4:(atD (repD 8:List R08cell) s).ok=true:=i3
    rw [repD_at] at i4
    cases i4
  ·have:fuel=0:=by simp at w;omega
   exact hk _ (.inl ⟨this,rfl,rfl⟩)
end
theorem input_sp (c:DCodes) (hc:okC c):WP (draw_Input c) fun r=>okC r.2∧(∀z∈r.1,wordR z)∧r.1.length≤1000:=by
 unfold draw_Input
 refine WP.call (next_sp c 4 hc (by omega)) fun x1 ⟨h1,h2,h3,_⟩=>?_
 have h4:=h3 (by omega)
 refine WP.loop (fun j=>0≤j.1∧okC j.2.1∧(j.2.2.length:Int)+j.1≤4∧∀z∈j.2.2,wordR z) (fun j=>j.1.toNat) ⟨h2,h1,by simp;omega,by simp⟩ ?_
 rintro again ⟨n,c2,l⟩ ⟨a1,a2,a3,a4⟩ ih
 dsimp only at a1 a2 a3 a4 ih ⊢
 refine WP.bif (fun w=>?_) (fun w=>?_)
 ·have hn:0<n:=by simpa using w
  refine WP.call (word_sp c2 a2) fun x2 ⟨b1,b2⟩=>?_
  refine WP.chk (by simp only [List.length_cons,List.length_nil];omega) fun _=>WP.chk ⟨by omega,by omega⟩ fun _=>?_
  refine ih _ ⟨by dsimp only;omega,b1,by simp;omega,fun z hz=>?_⟩ (by dsimp only;omega)
  rcases List.mem_append.1 hz with q| q
  ·exact a4 z q
  ·rw [one_mem q];exact b2
 ·exact WP.ret ⟨a2,a4,by dsimp only;omega⟩
theorem sameTrace_sp (l:List AValue) (hl:l.length≤1000000):WP (r08_SameTrace l l) (·=true):=by
 unfold r08_SameTrace
 refine WP.bif (fun w=>by simp at w) fun _=>?_
 refine WP.loop (fun j=>0≤j∧j≤l.length) (fun j=>l.length- j.toNat) ⟨by omega,by omega⟩ ?_
 rintro again i ⟨a1,a2⟩ ih
 refine WP.bif (fun w=>?_) (fun _=>WP.ret rfl)
 have hi:i<l.length:=by simpa using w
 refine WP.chk ⟨a1,hi⟩ fun _=>WP.chk ⟨a1,hi⟩ fun _=>?_
 refine WP.bif (fun w=>by simp at w) fun _=>?_
 refine WP.chk ⟨by omega,by omega⟩ fun _=>?_
 exact ih _ ⟨by omega,by omega⟩ (by omega)
theorem same08_sp (o:AOutcome) (hl:o.Trace.length≤1000000):WP (r08_Same o o) (·=true):=by
 unfold r08_Same
 refine WP.bif (fun _=>?_) fun w=>by simp at w
 refine WP.bif (fun _=>?_) fun w=>by simp at w
 refine WP.bif (fun _=>?_) fun w=>by simp at w
 refine WP.bif (fun _=>?_) fun w=>by simp at w
 refine WP.call (sameTrace_sp _ hl) ?_
 rintro _ rfl
 exact WP.ret rfl
theorem srcF_trace {p:AProgram} (hp:WfP p) {m:R08machine} {A:List R08activation} {top:R08activation} (h:SrcP p m A top):(srcF p m A top (atD (atD p.Funcs top.f).Code top.at_)).out.Trace.length≤m.out.Trace.length+1:=by
 have wI:=hp.instrAt h.topP.f h.topP.at_
 generalize hx:atD (atD p.Funcs top.f).Code top.at_=x at wI ⊢
 unfold srcF
 dsimp only
 split
 ·exact Nat.le_succ _
 split
 ·exact Nat.le_succ _
 split
 ·split<;>exact Nat.le_succ _
 split
 ·exact Nat.le_succ _
 split
 ·unfold memF
  dsimp only
  (repeat' split)<;>exact Nat.le_succ _
 ·rename_i h15
  have hop:x.Op≤14:=by omega
  have:=(plainF_rng x m.regs m.input m.out.Trace (wI.plain hop) h.regs h.inp).2.2.2
  split<;>exact this
theorem iterS_trace {p:AProgram} (hp:WfP p) {m:R08machine} (h0:SrcG p m) (ht:m.out.Trace.length=0) (hs:m.out.Steps=0):∀k:Nat,k≤400→SrcG p (iterS p m k)∧(iterS p m k).out.Steps≤k∧(iterS p m k).out.Trace.length≤k
 | 0,_=>⟨h0,by rw [show iterS p m 0=m from rfl,hs];simp,by rw [show iterS p m 0=m from rfl,ht];simp⟩
 | k+1,hk=>by
   obtain ⟨h1,h2,h3⟩:=iterS_trace hp h0 ht hs k (by omega)
   show SrcG p (srcStep p (iterS p m k))∧(srcStep p (iterS p m k)).out.Steps≤((k+1:Nat):Int)∧(srcStep p (iterS p m k)).out.Trace.length≤k+1
   rcases h1 with ⟨A,top,h⟩| h
   ·have e1:=srcF_steps p (iterS p m k) A top (atD (atD p.Funcs top.f).Code top.at_)
    have e2:=srcF_trace hp h
    rw [srcStep_run h]
    exact ⟨src_next hp h (by omega) rfl,by rw [e1];omega,by omega⟩
   ·have e:srcStep p (iterS p m k)=iterS p m k:=by
     unfold srcStep
     rw [if_pos h.1]
    rw [e]
    exact ⟨.inr h,by omega,by omega⟩
theorem finS_trace {p:AProgram} (hp:WfP p) {inp:List Int} (hi:∀z∈inp,wordR z) (hl:inp.length≤1000) {n:Nat} (hn:n≤400):(finS p (src0 p inp) n).Trace.length≤1000000:=by
 have h:=(iterS_trace hp (m:=src0 p inp) (.inl ⟨_,_,src0_P hp hi hl⟩) rfl rfl n hn).2.2
 unfold finS
 split
 ·omega
 ·show (iterS p (src0 p inp) n).out.Trace.length≤1000000
  omega
theorem SetP.mk' {p:AProgram} {al:Int} {l:List ALayout} {t:ATarget} (hp:WfP p) (few:p.Funcs.length≤4) (hal:al=alignP p) (hl:l.length=p.Funcs.length) (hA:∀i,inN i p.Funcs.length→AccP p i al (atD l i)) (hL:LowP p al l t):∃O,SetP p al l t O:=by
 have:∀i,∃out,inN i p.Funcs.length→Live (atD p.Funcs i) out∧NoClash (atD p.Funcs i) (atD l i) out:=fun i=>by
  by_cases h:inN i p.Funcs.length
  ·obtain ⟨out,q⟩:=(hA i h).ex
   exact ⟨out,fun _=>q⟩
  ·exact ⟨[],fun q=>absurd q h⟩
 refine ⟨fun i=>Classical.choose (this i),hp,few,hal,hl,hA,hL,fun i hi=>(Classical.choose_spec (this i) hi).1,fun i hi=>(Classical.choose_spec (this i) hi).2⟩
theorem pl_LowerAcceptedRunsAlike (cs:List Int) (fuel:Int) (h:isU8 cs) (hf:0≤fuel∧fuel≤255):WP (law26_LowerAcceptedRunsAlike cs fuel) (·=true):=by
 unfold law26_LowerAcceptedRunsAlike
 refine WP.call awake26_sp ?_
 rintro _ rfl
 refine WP.bif (fun w=>by cases w) fun _=>?_
 refine WP.call (sceneX_sp cs h) fun x2 ⟨hp,hfew,hal,hl,hA,hc⟩=>?_
 refine WP.call (target_sp hp hal hl fun i hi=>(hA i hi).shape) fun x3 ⟨e3,hL⟩=>?_
 rw [e3]
 refine WP.bif (fun w=>by simp at w) fun _=>?_
 obtain ⟨O,E⟩:=SetP.mk' hp (by omega) hal hl hA hL
 refine WP.loop (fun j=>0≤j.1∧okC j.2) (fun j=>(2- j.1).toNat) ⟨Int.le_refl 0,hc⟩ ?_
 rintro again ⟨n,c⟩ ⟨a1,a2⟩ ih
 dsimp only at a1 a2 ih ⊢
 refine WP.bif (fun w=>?_) fun _=>WP.ret rfl
 have hn:n<2:=by simpa using w
 refine WP.call (input_sp c a2) fun x4 ⟨hc4,i1,i2⟩=>?_
 refine WP.chk ⟨by omega,by omega⟩ fun _=>?_
 refine WP.call (run08_sp hp i1 i2 hf) ?_
 rintro _ rfl
 refine WP.chk ⟨by omega,by omega⟩ fun _=>?_
 refine WP.call (run12_sp E i1 i2 hf) fun x9 ⟨e9,⟨k1,k2⟩,hend⟩=>?_
 rw [e9]
 refine WP.bif (fun w=>by simp at w) fun _=>WP.bif (fun w=>by simp at w) fun _=>?_
 refine WP.bif (fun w=>by simp at w;omega) fun _=>WP.bif (fun w=>by simp at w;omega) fun _=>?_
 refine WP.bif (fun w=>?_) fun w=>?_
 ·have hne:¬(finS x2.1 (src0 x2.1 x4.1) fuel.toNat).Kind=3:=by simpa using w
  have e:=hend.resolve_left hne
  have ht:=finS_trace hp i1 i2 (n:=fuel.toNat) (by omega)
  rw [←e]
  refine WP.call (same08_sp _ ht) ?_
  rintro _ rfl
  refine WP.bif (fun w=>by cases w) fun _=>?_
  exact WP.chk ⟨by omega,by omega⟩ fun _=>ih _ ⟨by dsimp only;omega,hc4⟩ (by dsimp only;omega)
 ·exact WP.chk ⟨by omega,by omega⟩ fun _=>ih _ ⟨by dsimp only;omega,hc4⟩ (by dsimp only;omega)
end Go.Proofs.YtgbkhjllbgmdcaaGreat.Q
