/- From the rows' condition to what the walk asks of the listed variables: nothing. -/
import Derived.Test.YtlapjkgfjfajdaaGreatDoorCards
namespace Go.Proofs.YtlapjkgfjfajdaaGreatDoor
set_option linter.unusedSimpArgs false
set_option linter.unusedVariables false
def Laid (_ : World) : Prop := True
def laidList : List (String × DataW Unit) := [("math/bits.deBruijn32tab", Rows.laid_math_bits_deBruijn32tab), ("math/bits.deBruijn64tab", Rows.laid_math_bits_deBruijn64tab), ("internal/strconv.uint64pow10", Rows.laid_internal_strconv_uint64pow10), ("mullion/engine.ops", Rows.laid_mullion_engine_ops)]
theorem laid_of {W : World} (_ : laidMet Tryz.prog laidList W) (_ : W.ShapedOpen Tryz.prog) : Laid W := trivial
end Go.Proofs.YtlapjkgfjfajdaaGreatDoor
