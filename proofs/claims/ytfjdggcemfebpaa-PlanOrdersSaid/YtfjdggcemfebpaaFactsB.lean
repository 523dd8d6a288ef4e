/- More of what the program says of its types. Printed by a small program of this session. -/
import Derived.Test.YtfjdggcemfebpaaAwS
namespace Go.Proofs.Ytfjdggcemfebpaa.K
open Go.Proofs.YtfjdggcemfebpaaAw
theorem ZO1 : TIok Try.prog 1 = true := by kernel_rfl
theorem ZO2 : TIok Try.prog 2 = true := by kernel_rfl
theorem ZO3 : TIok Try.prog 3 = true := by kernel_rfl
theorem ZO4 : TIok Try.prog 4 = true := by kernel_rfl
theorem ZO5 : TIok Try.prog 5 = true := by kernel_rfl
theorem ZO9 : TIok Try.prog 9 = true := by kernel_rfl
theorem ZO12 : TIok Try.prog 12 = true := by kernel_rfl
theorem ZO21 : TIok Try.prog 21 = true := by kernel_rfl
theorem ZO22 : TIok Try.prog 22 = true := by kernel_rfl
theorem ZO23 : TIok Try.prog 23 = true := by kernel_rfl
theorem ZO24 : TIok Try.prog 24 = true := by kernel_rfl
theorem ZO25 : TIok Try.prog 25 = true := by kernel_rfl
theorem ZO26 : TIok Try.prog 26 = true := by kernel_rfl
theorem ZO27 : TIok Try.prog 27 = true := by kernel_rfl
theorem ZO28 : TIok Try.prog 28 = true := by kernel_rfl
theorem ZO29 : TIok Try.prog 29 = true := by kernel_rfl
theorem ZO30 : TIok Try.prog 30 = true := by kernel_rfl
theorem ZO31 : TIok Try.prog 31 = true := by kernel_rfl
theorem ZO32 : TIok Try.prog 32 = true := by kernel_rfl
theorem ZO33 : TIok Try.prog 33 = true := by kernel_rfl
theorem ZO34 : TIok Try.prog 34 = true := by kernel_rfl
theorem ZO35 : TIok Try.prog 35 = true := by kernel_rfl
theorem ZO36 : TIok Try.prog 36 = true := by kernel_rfl
theorem ZO37 : TIok Try.prog 37 = true := by kernel_rfl
theorem ZO38 : TIok Try.prog 38 = true := by kernel_rfl
theorem ZO39 : TIok Try.prog 39 = true := by kernel_rfl
theorem ZO40 : TIok Try.prog 40 = true := by kernel_rfl
theorem ZO41 : TIok Try.prog 41 = true := by kernel_rfl
theorem ZO42 : TIok Try.prog 42 = true := by kernel_rfl
theorem ZO43 : TIok Try.prog 43 = true := by kernel_rfl
theorem ZO44 : TIok Try.prog 44 = true := by kernel_rfl
theorem ZO45 : TIok Try.prog 45 = true := by kernel_rfl
theorem ZO46 : TIok Try.prog 46 = true := by kernel_rfl
theorem ZO47 : TIok Try.prog 47 = true := by kernel_rfl
theorem ZO49 : TIok Try.prog 49 = true := by kernel_rfl
theorem ZO50 : TIok Try.prog 50 = true := by kernel_rfl
theorem ZO51 : TIok Try.prog 51 = true := by kernel_rfl
theorem ZO52 : TIok Try.prog 52 = true := by kernel_rfl
theorem ZO53 : TIok Try.prog 53 = true := by kernel_rfl
theorem ZO54 : TIok Try.prog 54 = true := by kernel_rfl
theorem ZO55 : TIok Try.prog 55 = true := by kernel_rfl
theorem ZO56 : TIok Try.prog 56 = true := by kernel_rfl
theorem ZO57 : TIok Try.prog 57 = true := by kernel_rfl
theorem ZO58 : TIok Try.prog 58 = true := by kernel_rfl
theorem ZO59 : TIok Try.prog 59 = true := by kernel_rfl
theorem ZO60 : TIok Try.prog 60 = true := by kernel_rfl
theorem ZO61 : TIok Try.prog 61 = true := by kernel_rfl
theorem ZO67 : TIok Try.prog 67 = true := by kernel_rfl
theorem ZO68 : TIok Try.prog 68 = true := by kernel_rfl
attribute [go_sem] ZO1 ZO2 ZO3 ZO4 ZO5 ZO9 ZO12 ZO21 ZO22 ZO23 ZO24 ZO25 ZO26 ZO27 ZO28 ZO29 ZO30 ZO31 ZO32 ZO33 ZO34 ZO35 ZO36 ZO37 ZO38 ZO39 ZO40 ZO41 ZO42 ZO43 ZO44 ZO45 ZO46 ZO47 ZO49 ZO50 ZO51 ZO52 ZO53 ZO54 ZO55 ZO56 ZO57 ZO58 ZO59 ZO60 ZO61 ZO67 ZO68
end Go.Proofs.Ytfjdggcemfebpaa.K
