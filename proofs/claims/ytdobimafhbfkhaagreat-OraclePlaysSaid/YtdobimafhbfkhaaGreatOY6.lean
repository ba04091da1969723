/- A queue as data: who holds what, who waits; what asking, moving, dropping, leaving come ... -/
import Derived.Test.YtdobimafhbfkhaaGreatOY3
namespace Go.Proofs.YtdobimafhbfkhaaGreat
set_option linter.unusedSimpArgs false
structure Ent (C:Type) where
 o:Int
 c:C
 more:Bool
structure Rul (C:Type) where
 same:C→C→Bool
 conf:C→C→Bool
 cov:C→C→Bool
 join:C→C→C
section
variable {C : Type} (R : Rul C)
def Ent.less (e:Ent C):Ent C:=⟨e.o,e.c,false⟩
end
section
variable {C : Type} {R : Rul C}
end
section
variable {C : Type} {R : Rul C}
end
section
variable {C : Type} {R : Rul C}
end
section
variable {C : Type} {R : Rul C}
end
section
variable {C : Type} {R : Rul C}
end
end Go.Proofs.YtdobimafhbfkhaaGreat
