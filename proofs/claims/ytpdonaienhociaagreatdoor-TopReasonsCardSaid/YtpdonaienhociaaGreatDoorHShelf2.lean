/- Nothing beyond the first laying. -/
import Derived.Test.YtpdonaienhociaaGreatDoorHShelf
namespace Go.Proofs.YtpdonaienhociaaGreatDoor
end Go.Proofs.YtpdonaienhociaaGreatDoor
