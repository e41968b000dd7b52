/- The tape of bringupmake: source texts. -/
import Derived.Test.YtofhcgbihonckaaGreatY22
import Derived.Test.YtofhcgbihonckaaGreatY17
import Derived.Test.YtofhcgbihonckaaGreatY14
import Derived.Test.YtofhcgbihonckaaGreatY6
import Derived.Deep.LoopGhost
import Derived.Deep.RegionWith
import Derived.Laws.IdiomStrings
import Derived.IntWalk
set_option linter.all false
namespace Go.Proofs.YtofhcgbihonckaaGreat
open Go.RowKit
end Go.Proofs.YtofhcgbihonckaaGreat
