-- words of the kit's print, cut down by prune.py to what this claim uses
import Derived.Test.YtgkaiagoogjibaaWTab
