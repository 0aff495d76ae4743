/-
  Rows of bytes that are owned, beside the codec.
-/
import Derived.Test.YtmjikfeaopmejaaDoorBytesM
import Derived.Test.YtmjikfeaopmejaaDoorIn
import Derived.Test.YtmjikfeaopmejaaDoorAppend
