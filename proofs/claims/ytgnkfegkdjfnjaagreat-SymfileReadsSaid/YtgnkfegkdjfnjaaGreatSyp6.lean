/- The walk of the reference's writing of an interface. No condition but what each theorem says. -/
import Derived.Test.YtgnkfegkdjfnjaaGreatSyp5
namespace Go.Proofs.YtgnkfegkdjfnjaaGreat
open Go Go.Eng

end Go.Proofs.YtgnkfegkdjfnjaaGreat
