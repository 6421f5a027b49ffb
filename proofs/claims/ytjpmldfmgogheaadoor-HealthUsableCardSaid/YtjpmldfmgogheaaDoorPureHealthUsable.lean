/- HealthUsable: its law stands beside HealthSets'. -/
import Derived.Test.YtjpmldfmgogheaaDoorPureHealthSets
