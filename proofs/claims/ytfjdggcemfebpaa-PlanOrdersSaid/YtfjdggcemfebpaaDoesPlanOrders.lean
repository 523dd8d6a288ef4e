/- The law PlanOrders: what it does (planOrders_does lies in the text that is imported). -/
import Derived.Test.YtfjdggcemfebpaaPlan5
namespace Go.Proofs.Ytfjdggcemfebpaa
end Go.Proofs.Ytfjdggcemfebpaa
