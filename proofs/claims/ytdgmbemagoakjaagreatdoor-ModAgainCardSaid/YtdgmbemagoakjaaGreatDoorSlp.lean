/- The shelf's contracts at this program. No statement of its own about the program. -/
import Derived.Shelf.SlGeneric
import Derived.Shelf.SlLaysF0
import Derived.Shelf.Slices.In.SortNone
import Derived.Shelf.Spec.SlicesGrow
import Derived.Shelf.Small.Strs
import Derived.Shelf.Strings.Replace
import Derived.Shelf.Strings.Repeat
import Derived.Shelf.Strconv.Itoa4
import Derived.Ground.NamesProg
import Derived.Ground.Names8Prog
import Derived.KernelRfl
import Derived.Test.YtdgmbemagoakjaaGreatDoorProg
namespace Go.Proofs
open Go.Shelf Tryz
set_option maxRecDepth 10000
theorem sN {i:FuncId} {F G:Func} (a:Tryz.prog.funcs[i]? = some F) (h:F = G:=by kernel_rfl):Tryz.prog.funcs[i]? = some G:=a.trans (congrArg some h)
theorem rN {α:Type} {a b:α} (h:a = b:=by kernel_rfl):a = b:=h
theorem aN {α β:Type} {f g:α->β} (h:∀ w, f w = g w:=by intro w; kernel_rfl):∀ w, f w = g w:=h
theorem pN {i:FuncId} {F:Func} {Q:String->Prop} [Decidable (Q F.name)] {G:String->Func} (a:Tryz.prog.funcs[i]? = some F) (h:Q F.name:=by decide) (e:F = G F.name:=by kernel_rfl):∃ n, Q n ∧ Tryz.prog.funcs[i]? = some (G n):=⟨F.name, h, sN a e⟩
def Tryz.sortfL_ren:Go.Shelf.Ren:=⟨fun|6=>59|15=>114|14=>113|28=>183|29=>184|20=>175|21=>176|22=>177|23=>178|24=>179|25=>180|26=>181|27=>182|46=>240|47=>241|48=>242|49=>243|50=>244|57=>279|n=>n, fun|22=>23|24=>56|25=>116|3=>3|39=>164|0=>0|53=>105|55=>224|4=>4|46=>216|45=>215|50=>220|5=>5|9=>9|66=>252|70=>256|76=>280|77=>281|n=>n, fun|n=>n⟩
theorem Tryz.sortfL:Go.Proofs.SlLaysF0.n6 prog Tryz.sortfL_ren:=⟨rN,pN func59,pN func113,rN,pN func175,pN func176,pN func177,pN func178,pN func179,pN func180,pN func181,pN func182,rN,rN,pN func240,rN,rN,pN func243,pN func244,pN func279,rN,aN,aN,aN,rN,aN,aN,aN,rN,aN,aN,aN,rN,aN,aN,aN,rN,aN,aN,aN,rN,aN,aN,aN,rN,aN,aN,aN,rN,aN,aN,aN,rN,aN,aN,aN,rN,aN,aN,aN,rN,aN,aN,aN,rN,aN,aN,aN,rN,aN,aN,aN,rN,aN,aN,aN,rN,aN,aN,aN,rN,aN,aN,aN,rN,aN,aN,aN⟩
def Tryz.sortL_ren:Go.Shelf.Ren:=⟨fun|190=>219|125=>114|258=>266|128=>183|129=>184|302=>296|303=>297|304=>298|305=>299|306=>300|307=>301|308=>302|309=>303|310=>304|333=>324|329=>241|330=>242|334=>325|335=>326|336=>115|344=>341|n=>n, fun|31=>22|9=>9|3=>3|46=>164|0=>0|51=>105|53=>224|4=>4|183=>216|182=>215|131=>220|5=>5|218=>252|222=>256|228=>280|229=>281|n=>n, fun|n=>n⟩
theorem Tryz.sortL:Go.Proofs.Lays.n190 prog Tryz.sortL_ren:=by constructor<;>first|exact rN|exact aN|(constructor<;>first|exact rN|exact aN)
def Tryz.growL_ren:Go.Shelf.Ren:=⟨fun|4=>343|n=>n, fun|22=>138|25=>3|3=>3|4=>4|9=>9|20=>20|0=>0|n=>n, fun|n=>n⟩
theorem Tryz.growL:Go.Proofs.Lays8.n4 prog Tryz.growL_ren:=⟨rN,pN func343,rN,aN,aN,aN,rN,aN,aN,aN,rN,aN,aN,aN,rN,aN,aN,aN,rN,aN,aN,aN,rN,aN,aN,aN⟩
def Tryz.ixL_ren:Go.Shelf.Ren:=⟨fun|137=>206|217=>261|266=>292|n=>n, fun|9=>9|5=>5|3=>3|n=>n, fun|n=>n⟩
theorem Tryz.ixL:Go.Proofs.Lays.n137 prog Tryz.ixL_ren:=by constructor<;>first|exact rN|exact aN|(constructor<;>first|exact rN|exact aN)
def Tryz.fmtL_ren:Go.Shelf.Ren:=⟨fun|173=>247|246=>284|283=>315|284=>316|285=>317|286=>318|129=>184|317=>335|318=>336|319=>337|320=>338|337=>345|338=>346|n=>n, fun|2=>2|3=>3|9=>9|4=>4|171=>301|0=>0|53=>224|37=>58|5=>5|173=>303|212=>324|51=>105|20=>20|213=>325|46=>164|232=>342|233=>343|n=>n, fun|17=>5|18=>6|19=>7|n=>n⟩
theorem Tryz.fmtL:Go.Proofs.LaysM.n173 prog Tryz.fmtL_ren:=by constructor<;>first|exact rN|exact aN|(constructor<;>first|exact rN|exact aN)
def Tryz.repL_ren:Go.Shelf.Ren:=⟨fun|154=>246|138=>280|165=>281|143=>282|166=>20|197=>283|169=>27|195=>310|218=>311|240=>56|241=>312|219=>313|260=>314|276=>112|277=>331|217=>261|225=>332|224=>333|267=>334|266=>292|314=>344|n=>n, fun|9=>9|3=>3|4=>4|72=>60|0=>0|76=>63|105=>283|21=>21|5=>5|70=>57|20=>20|37=>58|75=>62|127=>122|164=>160|46=>164|119=>289|139=>322|138=>321|146=>306|51=>105|80=>75|n=>n, fun|1=>2|3=>3|4=>4|n=>n⟩
theorem Tryz.repL:Go.Proofs.Lays.n154 prog Tryz.repL_ren:=by constructor<;>first|exact rN|exact aN|(constructor<;>first|exact rN|exact aN)
def Tryz.rptL_ren:Go.Shelf.Ren:=⟨fun|105=>259|212=>289|99=>167|165=>281|166=>20|170=>26|169=>27|263=>320|264=>321|206=>234|240=>56|241=>312|276=>112|277=>331|n=>n, fun|9=>9|3=>3|4=>4|20=>20|0=>0|46=>164|109=>287|5=>5|72=>60|76=>63|51=>105|146=>306|53=>224|148=>308|70=>57|37=>58|75=>62|127=>122|164=>160|80=>75|n=>n, fun|n=>n⟩
theorem Tryz.rptL:Go.Proofs.Lays.n105 prog Tryz.rptL_ren:=by constructor<;>first|exact rN|exact aN|(constructor<;>first|exact rN|exact aN)
end Go.Proofs
