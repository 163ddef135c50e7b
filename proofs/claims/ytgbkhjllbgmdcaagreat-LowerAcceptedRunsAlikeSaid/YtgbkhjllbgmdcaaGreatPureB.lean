/- More of the language of lifted functions. No program in sight. -/
import Derived.Test.YtgbkhjllbgmdcaaGreatPure
namespace Go.Proofs.YtgbkhjllbgmdcaaGreat.Q
@[irreducible] def M.both {α:Type} (p:Prop) (m m':M α):M α:=fun r=>(p→m r)∧m' r
theorem M.both_iff {α:Type} {p:Prop} {m m':M α} {r:α}:M.both p m m' r↔(p→m r)∧m' r:=by unfold M.both;exact Iff.rfl
theorem WP.both {α:Type} {p:Prop} {m m':M α} {Q:α→Prop} (c:α) (h:p→WP m (·=c)) (h':WP m' (·=c)) (hq:Q c):WP (M.both p m m') Q:=by
 obtain ⟨r',h2,rfl⟩:=h'
 refine ⟨_,M.both_iff.2 ⟨fun hp=>?_,h2⟩,hq⟩
 obtain ⟨r,h1,rfl⟩:=h hp
 exact h1
end Go.Proofs.YtgbkhjllbgmdcaaGreat.Q
