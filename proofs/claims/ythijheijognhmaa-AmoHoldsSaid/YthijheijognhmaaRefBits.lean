/- Contracts of the functions of package tappetref01: Field, Put, Sext, Zext, Aligned, as functions on bit vectors. -/
import Derived.Test.YthijheijognhmaaBase
import Derived.Handy
namespace Go.Proofs.Ythijheijognhmaa
open Go.RowKit Wd
















end Go.Proofs.Ythijheijognhmaa
