/- What the walk of the law imports. -/
import Derived.Lib.QuietBelow
import Derived.BigQuiet
import Derived.IntWalk
import Derived.Test.YtjmpejaifmopnaaGreatQDrawSwap
import Derived.Test.YtjmpejaifmopnaaGreatQSwapSpec
import Derived.Test.YtjmpejaifmopnaaGreatQSym3
import Derived.Test.YtjmpejaifmopnaaGreatQRepR
set_option maxRecDepth 100000
set_option maxHeartbeats 16000000
