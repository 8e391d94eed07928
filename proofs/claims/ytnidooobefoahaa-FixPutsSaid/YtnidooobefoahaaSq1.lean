-- by fakeprint.py
import Derived.Test.YtnidooobefoahaaSq0
namespace Go.Proofs.Ytnidooobefoahaa.Sq
open Go.Proofs.Ytnidooobefoahaa.Hand
open Go.Proofs.Ytnidooobefoahaa.Sp
open Go.RowKit Go.Proofs.YtnidooobefoahaaW.PrintWords Go.Proofs.YtnidooobefoahaaW.PrintLast Go.Proofs.YtnidooobefoahaaW.PrintMore
attribute [local go_sem] max2_int min2_int max_two min_two max_three min_three max_four min_four   -- for this text's walks alone
set_option linter.unusedVariables false
set_option linter.unusedSimpArgs false

-- NOT PRINTED: function 29 (slices_Clone_byte_byte)

-- NOT PRINTED: function 16 (fix_Read)

-- NOT PRINTED: function 22 (fix_Reader_Err)

-- NOT PRINTED: function 31 (fix_Reader_fails)

-- NOT PRINTED: function 32 (fix_Reader_bytes)

-- NOT PRINTED: function 30 (fix_Reader_number)

-- NOT PRINTED: function 19 (fix_Reader_Take16)

end Go.Proofs.Ytnidooobefoahaa.Sq
