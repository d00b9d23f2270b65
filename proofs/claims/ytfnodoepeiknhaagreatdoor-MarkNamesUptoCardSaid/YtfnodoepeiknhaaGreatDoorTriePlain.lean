/- Line ends made one: plain; behind the trie. -/
import Derived.Test.YtfnodoepeiknhaaGreatDoorTrieLook
import Derived.Test.YtfnodoepeiknhaaGreatDoorNlPlain

