/- Keys of characters; texts as macros. -/
import Derived.Test.YticidpdbkjgebaaDoorExactTextReportsP42
import Derived.Test.YticidpdbkjgebaaDoorExactTextReportsP17
namespace Go.Kb
set_option maxRecDepth 100000
def fk (char m : Int) : Nat → Nat → Option (Int × Int)
  | 0, _ => none
  | n + 1, c => bif ch (c : Int) m == bytesOf [char] then some ((c : Int), m) else fk char m n (c + 1)
theorem fk_succ (char m : Int) (n c : Nat) : fk char m (n + 1) c = bif ch (c : Int) m == bytesOf [char] then some ((c : Int), m) else fk char m n (c + 1) := rfl

def ky (char : Int) : Int × Int := match fk char 0 56 1 with | some r => r | none => match fk char 2 56 1 with | some r => r | none => (0, 0)

/-! ### texts -/
end Go.Kb
