/- The walks of the reference's writing of types and interfaces. No condition but what each theorem says. -/
import Derived.Test.YtgnkfegkdjfnjaaGreatSyp4
namespace Go.Proofs.YtgnkfegkdjfnjaaGreat
open Go Go.Eng

def numsOf (x : Ty) : List Int := [x.len, x.elem, x.base, x.res, x.desc]
theorem tyIts_eq (x : Ty) : tyIts x = [.byte x.form, .text x.mod, .text x.name] ++ ((numsOf x).map It.num ++ (.num x.fields.length :: (x.fields.flatMap fldIts ++ (.num x.params.length :: x.params.flatMap parIts)))) := rfl
end Go.Proofs.YtgnkfegkdjfnjaaGreat
