/- Products of two sets beside those of both together: the reference's word. -/
import Derived.Test.YtdofbddeffgneaaFr
namespace Go.Proofs.Ytdofbddeffgneaa
attribute [local irreducible] QOp aL aC qL
end Go.Proofs.Ytdofbddeffgneaa
