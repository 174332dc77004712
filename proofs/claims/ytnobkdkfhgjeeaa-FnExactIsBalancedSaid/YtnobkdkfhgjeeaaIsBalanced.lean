/- IsBalanced: both texts. -/
import Derived.Test.YtnobkdkfhgjeeaaBalImpl
import Derived.Test.YtnobkdkfhgjeeaaBalSpec
