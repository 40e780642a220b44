/- Residues of a word: sums, products, powers, inverses, and how a modulus is made. -/
import Derived.Test.YtoiclkaecgpbbaaDoorModw2
namespace Go.Proofs.YtoiclkaecgpbbaaDoor
open Go.RowKit

def sumTo (f : Nat → Int) : Nat → Int
  | 0 => 0
  | k + 1 => sumTo f k + f k
def prodTo (f : Nat → Int) : Nat → Int
  | 0 => 1
  | k + 1 => prodTo f k * f k
end Go.Proofs.YtoiclkaecgpbbaaDoor
