/- texts of this claim, one behind the other:  -/
import Derived.Test.YtkecpfjmdokieaaDoorH4

