/- What the walks over maps lean on. -/
import Derived.Maps.OwnSet
import Derived.WalkSpells
import Derived.StringKeys
