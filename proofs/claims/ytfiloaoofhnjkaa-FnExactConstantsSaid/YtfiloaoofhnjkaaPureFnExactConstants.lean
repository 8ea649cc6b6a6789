/- The law on the program's constants holds: each exported constant has the value that the document gives.
Conditions: none. -/
import Derived.Test.YtfiloaoofhnjkaaPFnExactConstantsx1
namespace Go.Proofs.Ytfiloaoofhnjkaa.Pure
open Go.RowKit Go.Proofs.Ytfiloaoofhnjkaa.PFnExactConstants Go.Proofs.YtfiloaoofhnjkaaW.PrintWords Go.Proofs.YtfiloaoofhnjkaaW.PrintLast

theorem FnExactConstants : laws_FnExactConstants.Pure := rfl

end Go.Proofs.Ytfiloaoofhnjkaa.Pure
