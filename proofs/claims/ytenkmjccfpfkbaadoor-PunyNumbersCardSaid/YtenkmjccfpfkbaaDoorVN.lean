/-
  The printed texts that PunyNumbers needs.
-/
import Derived.Test.YtenkmjccfpfkbaaDoorVx1
import Derived.Test.YtenkmjccfpfkbaaDoorVx2
import Derived.Test.YtenkmjccfpfkbaaDoorVxB
import Derived.Test.YtenkmjccfpfkbaaDoorVx8
import Derived.Test.YtenkmjccfpfkbaaDoorVx9
