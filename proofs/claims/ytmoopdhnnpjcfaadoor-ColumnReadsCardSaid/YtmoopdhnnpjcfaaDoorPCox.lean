-- WRITTEN by a program of this session's own (wip/gen/mergep.py)
import Derived.Test.YtmoopdhnnpjcfaaDoorPCoya
import Derived.Test.YtmoopdhnnpjcfaaDoorPCoyb
import Derived.Test.YtmoopdhnnpjcfaaDoorPCoyc
