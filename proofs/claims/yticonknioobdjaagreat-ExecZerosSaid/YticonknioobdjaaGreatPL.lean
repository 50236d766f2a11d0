/- KcE0 KcE1 KcE2 KcE3 AncE -/
import Derived.Test.YticonknioobdjaaGreatProg
import Derived.Test.YticonknioobdjaaGreatPF
import Derived.Test.YticonknioobdjaaGreatPA
import Derived.KernelRfl
set_option linter.unusedSimpArgs false
set_option linter.unusedVariables false
set_option linter.unusedSectionVars false
set_option linter.defProp false
set_option maxRecDepth 100000
set_option maxHeartbeats 4000000
namespace Go.Ev
open Go Go.Proofs
theorem key0:List.map (cFunc Tryz.prog) [4,9,10,11,13,16,24,25,26,29,35,36,37,43,44,45,46,64,65,66,67,68,69,70,71,72]=[some af4,some af9,some af10,some af11,some af13,some af16,some af24,some af25,some af26,some af29,some af35,some af36,some af37,some af43,some af44,some af45,some af46,some af64,some af65,some af66,some af67,some af68,some af69,some af70,some af71,some af72]:=by kernel_rfl
theorem key1:List.map (cFunc Tryz.prog) [73,76,77,78,79,104,105,106,107,108,109,110,111,112,113,114,115,116,117,118,119,120,121,122,123,124,125,126,127,128,129,130,131]=[some af73,some af76,some af77,some af78,some af79,some af104,some af105,some af106,some af107,some af108,some af109,some af110,some af111,some af112,some af113,some af114,some af115,some af116,some af117,some af118,some af119,some af120,some af121,some af122,some af123,some af124,some af125,some af126,some af127,some af128,some af129,some af130,some af131]:=by kernel_rfl
theorem key2:List.map (cFunc Tryz.prog) [132,133,134,135,136,137,138,141,142,143,144,145,146,147,148,149,150,151,152,153,154,155,156,157,158,159,160,161,162,163,164,165,166,167,170,171,172,173,174,175,176,177]=[some af132,some af133,some af134,some af135,some af136,some af137,some af138,some af141,some af142,some af143,some af144,some af145,some af146,some af147,some af148,some af149,some af150,some af151,some af152,some af153,some af154,some af155,some af156,some af157,some af158,some af159,some af160,some af161,some af162,some af163,some af164,some af165,some af166,some af167,some af170,some af171,some af172,some af173,some af174,some af175,some af176,some af177]:=by kernel_rfl
theorem key3:List.map (cFunc Tryz.prog) [178,179,180,181,182,183,184,185,186,187,188,189,190,191,192,193,194,195,196,197,198,199,200,201,207,210,211,212,213,214,215,216,217,223,224,225,226,227,228,229,230,231,233,234]=[some af178,some af179,some af180,some af181,some af182,some af183,some af184,some af185,some af186,some af187,some af188,some af189,some af190,some af191,some af192,some af193,some af194,some af195,some af196,some af197,some af198,some af199,some af200,some af201,some af207,some af210,some af211,some af212,some af213,some af214,some af215,some af216,some af217,some af223,some af224,some af225,some af226,some af227,some af228,some af229,some af230,some af231,some af233,some af234]:=by kernel_rfl
theorem mixed:Tryz.prog.follows .mixedOrders=true:=by kernel_rfl
noncomputable def tab0(f:Nat):Option AFunc:=T.get tabT f
theorem allT:∀f af,tab0 f=some af->cFunc Tryz.prog f=some af:=tab_keys (ks:=[4,9,10,11,13,16,24,25,26,29,35,36,37,43,44,45,46,64,65,66,67,68,69,70,71,72]++([73,76,77,78,79,104,105,106,107,108,109,110,111,112,113,114,115,116,117,118,119,120,121,122,123,124,125,126,127,128,129,130,131]++([132,133,134,135,136,137,138,141,142,143,144,145,146,147,148,149,150,151,152,153,154,155,156,157,158,159,160,161,162,163,164,165,166,167,170,171,172,173,174,175,176,177]++[178,179,180,181,182,183,184,185,186,187,188,189,190,191,192,193,194,195,196,197,198,199,200,201,207,210,211,212,213,214,215,216,217,223,224,225,226,227,228,229,230,231,233,234]))) (by kernel_rfl) (by rw[q0O,q0O,q0O,key0,key1,key2,key3];kernel_rfl)
theorem tab0_ok[Glob]:TabOK Tryz.prog tab0:=λf af h=>.inl (allT f af h)
theorem anchor:isTrue (evF tab0 1000000 9 [] (AH.mk T.leaf 0))=true:=by kernel_rfl
noncomputable def tabL(f:Nat):Option AFunc:=T.get (T.log 2 173 (some (natF 4 (chG tab0 4 af173.body af173.res))) (T.log 1 9 (some yesF) tabT)) f
theorem tabL_ok[Glob]:TabOK Tryz.prog tabL:=TabOK.logN (TabOK.logN tab0_ok (nat_true mixed tab0_ok (by kernel_rfl) anchor)) (ch_nat mixed tab0_ok (allT 173 _ (by kernel_rfl)) (by kernel_rfl) (by kernel_rfl))
theorem pv0:PV tab0:=by constructor<;>kernel_rfl
theorem pvL:PV tabL:=by constructor<;>kernel_rfl
end Go.Ev
