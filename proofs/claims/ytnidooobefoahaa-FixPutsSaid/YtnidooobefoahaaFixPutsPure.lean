/- What FixPuts comes to, in plain Lean. -/
import Derived.Test.YtnidooobefoahaaSq2
import Derived.Test.YtnidooobefoahaaPutPure
namespace Go.Proofs.Ytnidooobefoahaa.Pure
open Go.Proofs.Ytnidooobefoahaa.Hand Go.Proofs.Ytnidooobefoahaa.Sq
open Go.RowKit Go.Proofs.Ytnidooobefoahaa.Sp Go.Proofs.YtnidooobefoahaaW.PrintWords Go.Proofs.YtnidooobefoahaaW.PrintLast Go.Proofs.YtnidooobefoahaaW.PrintMore
theorem fixPuts_f (a0 a2 : ByteArray) (a1 : Int) (h0 : a0.size ≤ 140737488351232) (h2 : a2.size ≤ 140737488351232) (h1 : -9223372036854775808 ≤ a1) (h1' : a1 ≤ 9223372036854775807) : sapwoodlaw01_FixPuts.f 10 a0 a1 a2 = some true := by
  have hl : (bytesOf a0).length = a0.size := bytesOf_len a0
  have e1 : fix_Put16.f 10 (bytesOf a0) a1 = some (bytesOf a0 ++ bigE a1 2) := put16_f _ _ (by omega) 10 (by omega)
  have e2 : fix_Put32.f 10 (bytesOf a0) a1 = some (bytesOf a0 ++ bigE a1 4) := put32_f _ _ (by omega) 10 (by omega)
  have e3 : fix_PutText.f 10 (bytesOf a0) a2 = some (bytesOf a0 ++ textE a2) := putText_f _ _ (by omega) (by omega) 10 (by omega)
  have e4 : sapwoodref01_Number.f 10 a1 2 = some (strOfNums (bigE a1 2)) := number_f a1 2 (by omega) h1 h1' 10 (by omega)
  have e5 : sapwoodref01_Number.f 10 a1 4 = some (strOfNums (bigE a1 4)) := number_f a1 4 (by omega) h1 h1' 10 (by omega)
  have e6 : sapwoodref01_Text.f 10 a2 = some (strOfNums (textE a2)) := text_f a2 (by omega) 10 (by omega)
  have ht : (textE a2).length ≤ 2 + a2.size := by
    unfold textE
    rw [List.length_append, bigE_length, bytesOf_len, ByteArray.size_extract]
    omega
  have s1 : strOfNums (bytesOf a0 ++ bigE a1 2) = a0 ++ strOfNums (bigE a1 2) := by rw [str_append, str_bytes]
  have s2 : strOfNums (bytesOf a0 ++ bigE a1 4) = a0 ++ strOfNums (bigE a1 4) := by rw [str_append, str_bytes]
  have s3 : strOfNums (bytesOf a0 ++ textE a2) = a0 ++ strOfNums (textE a2) := by rw [str_append, str_bytes]
  unfold sapwoodlaw01_FixPuts.f
  rw [e1, e2, e3, e4, e5, e6]
  simp only [Option.bind_some, sapwoodlaw01_awake.f]
  rw [if_pos trivial, if_pos (by omega), s1, s2, s3, if_pos (by rw [str_size, bigE_length]; omega), if_pos rfl, if_pos (by rw [str_size, bigE_length]; omega), if_pos rfl, if_pos (by rw [str_size]; omega)]
  simp
theorem fixPuts_walk (a0 a2 : ByteArray) (a1 : Int) (W : World) (h0 : a0.size ≤ 140737488351232) (h2 : a2.size ≤ 140737488351232) (w1 : (Lit.int .i64 a1).wf = true) :
    Calls Try.prog 4 #[.string a0, .int .i64 a1, .string a2] W fun e w' => e = .returned (.bool true) ∧ Below W.heap.size W w' := by
  have b1 : -9223372036854775808 ≤ a1 ∧ a1 ≤ 9223372036854775807 := by
    simp [Lit.wf, IntKind.min, IntKind.max, IntKind.signed, IntKind.bits] at w1
    omega
  exact sapwoodlaw01_FixPuts.calls 10 a0 a1 a2 true W (fixPuts_f a0 a2 a1 h0 h2 b1.1 b1.2)
end Go.Proofs.Ytnidooobefoahaa.Pure
