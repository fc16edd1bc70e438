import Derived.Test.YtedmbkhjpbdkjaaPureL
namespace Go.Proofs.Ytedmbkhjpbdkjaa.Pure
open Go.Proofs.Ytedmbkhjpbdkjaa.XA
theorem LogicTests : umlautlaw12_LogicTests.Pure := PureL.LogicTests
end Go.Proofs.Ytedmbkhjpbdkjaa.Pure
