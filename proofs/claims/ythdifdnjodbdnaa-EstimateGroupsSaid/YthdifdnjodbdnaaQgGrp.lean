-- walked by hand: Gr
import Derived.Test.YthdifdnjodbdnaaGr
