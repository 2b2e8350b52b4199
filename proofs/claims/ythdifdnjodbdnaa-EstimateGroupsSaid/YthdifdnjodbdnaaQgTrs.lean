-- walked by hand: Tr
import Derived.Test.YthdifdnjodbdnaaTr
