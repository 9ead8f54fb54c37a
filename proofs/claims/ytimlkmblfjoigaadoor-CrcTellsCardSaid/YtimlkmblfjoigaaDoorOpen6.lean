/- Both: slices of slices of bytes, and the table. -/
import Derived.Test.YtimlkmblfjoigaaDoorOpen2
import Derived.Test.YtimlkmblfjoigaaDoorOpen5
