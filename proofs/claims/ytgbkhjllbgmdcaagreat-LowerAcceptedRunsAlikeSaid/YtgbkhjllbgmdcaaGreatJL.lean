/- Texts of the claim, one behind the other. -/
import Derived.Test.YtgbkhjllbgmdcaaGreatPB
import Derived.Test.YtgbkhjllbgmdcaaGreatGw14
import Derived.Test.YtgbkhjllbgmdcaaGreatLiftA
import Derived.Test.YtgbkhjllbgmdcaaGreatRows
import Derived.Test.YtgbkhjllbgmdcaaGreatClose
import Derived.Test.YtgbkhjllbgmdcaaGreatBase
namespace Go.Proofs.YtgbkhjllbgmdcaaGreat
open Go.RowKit Q
theorem law_LowerAcceptedRunsAlike (v0:Value) (l0:List Int) (a1:Int) (w:World) (h0:Holds w (fun b=>b<w.heap.size) 1 v0 l0.length (l0.map (Value.int .u8))) (b0:∀z∈l0,0≤z∧z≤255) (b1:0≤a1∧a1≤255):
 Calls Tryz.prog 4 #[v0,.int .u8 a1] w fun e w'=>e=.returned (.bool true)∧Below w.heap.size w w':=by
 obtain ⟨r,h,rfl⟩:=pl_LowerAcceptedRunsAlike l0 a1 b0 b1
 refine law_close (law26_LowerAcceptedRunsAlike_ok l0 a1 true h) (fun h=>by cases h) rfl ?_
 intro i x v hx hv
 match i with
 | 0=>
   have hx':_=x:=Option.some.inj hx
   have hv':_=v:=Option.some.inj hv
   subst hx';subst hv'
   exact h0.treeB fun _ h=>h
 | 1=>
   have hx':_=x:=Option.some.inj hx
   have hv':_=v:=Option.some.inj hv
   subst hx';subst hv'
   exact Tr.int _ _
 | i+2=>simp at hx
end Go.Proofs.YtgbkhjllbgmdcaaGreat
namespace Go.Proofs.YtgbkhjllbgmdcaaGreat.lowerAcceptedRunsAlike
open Go.ChangeShapes Go.WideShapes Go.ChangeAt Go.RowKit
theorem own:ownKnob Tryz.prog.godebug=none:=by kernel_rfl
theorem laidOut:laidOutB Tryz.prog=true:=by kernel_rfl
set_option linter.unusedVariables false in
set_option maxRecDepth 100000 in
theorem lifted (os:Os) (started:os.Started) (H:Type) (enc:TypeId × Value→H):
 ReturnsInHanded {} Tryz.checked os 4 .any (Rows.lowerAcceptedRunsAlikeSpec.pre6 enc Tryz.prog Tryz.f4 Rows.lowerAcceptedRunsAlikeRow.domain false) (Rows.lowerAcceptedRunsAlikeSpec.post enc Tryz.prog Tryz.f4 false true false false):=by
 refine returnsInHanded_of_change (C:=Tryz.checked) own started (by kernel_rfl) Tryz.func4
  (ChangeSpec.witness6 (enc:=enc) (C:=Tryz.checked) false ⟨#[],#[.slice none 0 0,.int .u8 0],[]⟩ 8 (by kernel_rfl) (by kernel_rfl) (by kernel_rfl) (by kernel_rfl)) ?_
 intro W base args ds gs before hval0 hW hcnd _
 have hval:∀(j:Nat) t v,Tryz.f4.params[j]?=some t→args[j]?=some v→Value.okWide Tryz.prog W .any base t v:=hval0
 have hW':DataW.Whole enc Tryz.prog Tryz.f4.params.toList Rows.lowerAcceptedRunsAlikeSpec.vars false W args.toList ds gs before:=hW
 obtain ⟨p,q,hA0,hV,rfl,hfz,hnd⟩:=hW
 have hA:DataW.TrodAll enc Tryz.prog W 0 (fun _=>true) true Tryz.f4.params.toList args.toList ds p:=hA0
 obtain ⟨rfl,rfl⟩:=trodVars_none hV
 rw [Tryz.params4] at hA hval
 obtain ⟨v0,vs0,d0,ds0,p0,q0,hargs,rfl,rfl,h0,r0⟩:=trodAll_cons hA
 obtain ⟨v1,vs1,d1,ds1,p1,q1,rfl,rfl,rfl,h1,r1⟩:=trodAll_cons r0
 obtain ⟨rfl,rfl,rfl⟩:=trodAll_nil r1
 obtain rfl:args=#[v0,v1]:=by cases args;simp_all
 obtain ⟨l0,g0,w0⟩:=open_reads Tryz.underlying22 Tryz.underlying5 (by kernel_rfl) (hval 0 22 v0 rfl rfl) h0
 have b0:∀z∈l0,0≤z∧z≤255:=fun z hz=>by simpa [Lit.wf,IntKind.min,IntKind.max,IntKind.signed,IntKind.bits] using w0 z hz
 obtain ⟨a1,rfl,rfl,rfl,w1⟩:=open_int Tryz.underlying5 (hval 1 5 v1 rfl rfl) h1
 have b1:0≤a1∧a1≤255:=by simpa [Lit.wf,IntKind.min,IntKind.max,IntKind.signed,IntKind.bits] using w1
 refine (law_LowerAcceptedRunsAlike v0 l0 a1 W g0 b0 b1).mono fun e W' ⟨he,hg⟩=>?_
 subst he
 exact ⟨_,rfl,post_law laidOut (by kernel_rfl) rfl Tryz.underlying4 rfl rfl hW' hg⟩
theorem proved:Rows.LowerAcceptedRunsAlikeSaid:=
 OpenClaim.holds_of_wide 4 Tryz.f4 rfl rfl rfl rfl rfl rfl rfl ⟨rfl,rfl,rfl,rfl,rfl⟩ rfl rfl rfl rfl rfl (by kernel_rfl) Tryz.func4 (by kernel_rfl)
  (of_decide_eq_true (by kernel_rfl)) (by unfold Func.isWrapper;first| (rw [if_pos (by decide+kernel)];kernel_rfl)| (rw [if_neg (by decide+kernel)];exact ⟨rfl,rfl⟩))
  (fun os started H enc _=>lifted os started H enc)
end Go.Proofs.YtgbkhjllbgmdcaaGreat.lowerAcceptedRunsAlike
