/-
  strings.Builder: all that the seat's program uses.
-/
import Derived.Test.YthdcpjmjdbldiaaDoorBldByte
import Derived.Test.YthdcpjmjdbldiaaDoorBldStr
