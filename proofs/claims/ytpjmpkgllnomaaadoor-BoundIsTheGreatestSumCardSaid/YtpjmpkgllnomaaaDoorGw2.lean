/- Walks of functions: the code does what the lifted text says (written by a program). -/
import Derived.Test.YtpjmpkgllnomaaaDoorGw1
set_option linter.unusedVariables false
set_option linter.unusedSimpArgs false
set_option maxRecDepth 8000
namespace Go.Proofs.YtpjmpkgllnomaaaDoor.Q
open Go.RowKit
set_option maxHeartbeats 4000000 in
theorem r04_Same_ok (a1 : List Int) (b1 : List Int) : ∀ r : Bool, r04_Same a1 b1 r → FCalls Tryd.prog 16 [] [.c (.v (.tree (a1.map iRow))), .c (.v (.tree (b1.map iRow)))] (.w (.c (.v (.bool r)))) [] [] := by
  refine fnS 26 ?_; unfold r04_Same; refine VS.seq (VS.region ?_); refine X.lk ?_; refine X.nil (ES.seq (VS.seq (VS.seq (VS.region ?_)))); refine X.lk ?_; refine X.lenT ?_; refine X.lk ?_; refine X.lenT ?_; refine X.lk ?_; refine X.nil (ES.seq ?_)
  refine VS.cond (fun h1 => ?_) (fun h1 => ?_)
  · refine VS.seq (VS.region ?_); refine X.lk ?_; refine X.nil (ES.seq (VS.ret (ES.thnR ?_))); refine ES.ret ?_; exact Ret.clo [.c (.v (.bool false))] ⟨rfl, trivial⟩ trivial
  · refine VS.skip (ES.seq (VS.seq (VS.seq (VS.region ?_)))); refine X.lk ?_; refine X.nil (ES.seq (VS.block ?_)); refine VS.loop (fun (i1 : Int) => (⟨[(0, .w (.c (.v (.tree (a1.map iRow))))), (1, .w (.c (.v (.tree (b1.map iRow))))), (5, .w (.c (.v (.int .i64 i1))))], []⟩ : St)) (j0 := 0) (St.le_sub ⟨rfl, rfl, rfl, trivial⟩ trivial rfl) ?_; rintro n1 again1 ih_again1 i1; refine VS.seq (VS.seq (VS.region ?_)); (iterate 2 refine X.lk ?_); refine X.lenT ?_; refine X.lk ?_; refine X.nil (ES.seq ?_)
    refine VS.cond (fun h2 => ?_) (fun h2 => ?_)
    · refine VS.skip (ES.seq (VS.seq (VS.block (VS.seq (VS.drawn ?_))))); (iterate 2 refine X.lk ?_); refine X.idxT (fun h3 => ?_); (iterate 3 refine X.lk ?_); refine X.idxT (fun h4 => ?_); (iterate 2 refine X.lk ?_); refine X.nilD ?_ (by kernel_rfl); refine ES.seq ?_
      refine VS.cond (fun h5 => ?_) (fun h5 => ?_)
      · refine VS.seq (VS.region ?_); refine X.lk ?_; refine X.nil (ES.seq (VS.ret (ES.blkR (ES.thnR (ES.thnR (ES.blkR (ES.thnR ?_))))))); refine ES.ret ?_; exact Ret.clo [.c (.v (.bool false))] ⟨rfl, trivial⟩ trivial
      · refine VS.skip (ES.blkN (ES.seq (VS.region ?_))); refine X.lk ?_; refine X.ck fun h6 => ?_; refine X.lk ?_; refine X.nil ?_; exact ES.go ih_again1 (i1 + 1) (St.le_sub ⟨rfl, rfl, rfl, trivial⟩ trivial rfl)
    · refine VS.exit (ES.thnE (ES.thnE (ES.blkE (ES.seq (VS.seq (VS.region ?_)))))); refine X.lk ?_; refine X.nil (ES.seq (VS.ret ?_)); refine ES.ret ?_; exact Ret.clo [.c (.v (.bool true))] ⟨rfl, trivial⟩ trivial
end Go.Proofs.YtpjmpkgllnomaaaDoor.Q
