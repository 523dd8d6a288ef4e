/- The law CostNumbers: what it does. -/
import Derived.Test.YtfjdggcemfebpaaShow21
