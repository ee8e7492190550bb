-- written by a program of this session (xprint.py)
import Derived.Test.YtbgigckmehgcpaaDoorPax0
import Derived.Test.YtbgigckmehgcpaaDoorPax1
import Derived.Test.YtbgigckmehgcpaaDoorPax2
import Derived.Test.YtbgigckmehgcpaaDoorPax3
namespace Go.Proofs.YtbgigckmehgcpaaDoor.Pa
open Go.RowKit Go.Proofs.YtbgigckmehgcpaaDoorW.PrintWords Go.Proofs.YtbgigckmehgcpaaDoorW.PrintLast Go.Proofs.YtbgigckmehgcpaaDoorW.PrintMore
attribute [local go_sem] max2_int min2_int max_two min_two max_three min_three max_four min_four   -- for this text's walks alone
set_option linter.unusedVariables false
set_option linter.unusedSimpArgs false

end Go.Proofs.YtbgigckmehgcpaaDoor.Pa
