/- RX, part 0: the package-level variables that the runs read: their blocks, their cells. -/
import Derived.Orders
namespace RX
open Go
def TB : List (Nat × List Value) := [(0, [.int .u64 1, .int .u64 10, .int .u64 100, .int .u64 1000, .int .u64 10000, .int .u64 100000, .int .u64 1000000, .int .u64 10000000, .int .u64 100000000, .int .u64 1000000000, .int .u64 10000000000, .int .u64 100000000000, .int .u64 1000000000000, .int .u64 10000000000000, .int .u64 100000000000000, .int .u64 1000000000000000, .int .u64 10000000000000000, .int .u64 100000000000000000, .int .u64 1000000000000000000, .int .u64 10000000000000000000])]
/-- Are slices of whole numbers kept as lists that may be unknown? -/
def IS : Bool := false
end RX
